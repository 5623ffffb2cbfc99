/- The engine and the library, part 3 of 4: what the proofs of this seat need of them. -/
import Derived.Test.YtddfefpncbdaeaaPk2
namespace Go.Eng
set_option linter.unusedVariables false
set_option linter.unusedSimpArgs false
set_option linter.unnecessarySimpa false
open Go
class Kn (α : Type) where
  run : α → Prop
class Kn2 where
  run : SV → List (Nat × Nat) → Prop
def wv {α : Type} (o : Option α) [k : Kn α] : Prop := withV o k.run
theorem k_wv {α : Type} (o : Option α) (k : α → Prop) : withV o k = @wv α o ⟨k⟩ := rfl
theorem w_some {α : Type} (a : α) (k : α → Prop) : @wv α (some a) ⟨k⟩ = k a := rfl
theorem w_none {α : Type} (k : α → Prop) : @wv α none ⟨k⟩ = False := rfl
def callP (C : Con) (f : Nat) (as : List AV) (id : Nat) (lv : List (Nat × Nat)) (k : SV → List (Nat × Nat) → Prop) : Prop :=
  ∃ r fr, C.c f as r fr ∧ k (.dat r (fr.map fun _ => id)) (match fr with | some e => (id, e) :: lv | none => lv)
def cl (C : Con) (f : Nat) (as : List AV) (id : Nat) (lv : List (Nat × Nat)) [k : Kn2] : Prop := callP C f as id lv k.run
theorem k_cl (C : Con) (f : Nat) (as : List AV) (id : Nat) (lv : List (Nat × Nat)) (k : SV → List (Nat × Nat) → Prop) : callP C f as id lv k = @cl C f as id lv ⟨k⟩ := rfl
@[congr] theorem g_callP {C : Con} (f : Nat) {as as' : List AV} (id : Nat) (lv : List (Nat × Nat)) (k : SV → List (Nat × Nat) → Prop) (h : as = as') : callP C f as id lv k = callP C f as' id lv k := by rw [h]
theorem call_is {C : Con} {f : Nat} {as : List AV} {id : Nat} {lv : List (Nat × Nat)} {k : SV → List (Nat × Nat) → Prop} {r : AV} (h : C.c f as r none) (hk : k (.dat r none) lv) : @cl C f as id lv ⟨k⟩ := ⟨r, none, h, hk⟩
class Kn3 where
  run : SV → List (Nat × Box) → List (Nat × Nat) → Prop
def callPP (C : Con) (f : Nat) (css : List (List AV)) (as : List (Option AV)) (ids : List Nat) (id : Nat) (bx : List (Nat × Box)) (lv : List (Nat × Nat)) (k : SV → List (Nat × Box) → List (Nat × Nat) → Prop) : Prop :=
  ∃ r fr css', C.p f css as r fr css' ∧ k (.dat r (fr.map fun _ => id)) (setBs ids css' bx) (match fr with | some e => (id, e) :: lv | none => lv)
def clp (C : Con) (f : Nat) (css : List (List AV)) (as : List (Option AV)) (ids : List Nat) (id : Nat) (bx : List (Nat × Box)) (lv : List (Nat × Nat)) [k : Kn3] : Prop := callPP C f css as ids id bx lv k.run
theorem k_clp (C : Con) (f : Nat) (css : List (List AV)) (as : List (Option AV)) (ids : List Nat) (id : Nat) (bx : List (Nat × Box)) (lv : List (Nat × Nat)) (k : SV → List (Nat × Box) → List (Nat × Nat) → Prop) : callPP C f css as ids id bx lv k = @clp C f css as ids id bx lv ⟨k⟩ := rfl
section
variable {C : Con} {Q : Exit → S → Prop} {K : SV → S → Prop} {J : S → Prop}
variable (sl : List (Nat × SV)) (bx : List (Nat × Box)) (lv : List (Nat × Nat)) (nx : Nat)
theorem r_lk (n m : Nat) (v : SV) (r : List (Nat × SV)) : lk n ((m, v) :: r) = bif n == m then some v else lk n r := rfl
theorem r_lkB (n m : Nat) (v : Box) (r : List (Nat × Box)) : lkB n ((m, v) :: r) = bif n == m then some v else lkB n r := rfl
theorem r_lkN (n m : Nat) (v : Nat) (r : List (Nat × Nat)) : lkN n ((m, v) :: r) = bif n == m then some v else lkN n r := rfl
theorem r_lkN0 (n : Nat) : lkN n [] = none := rfl
theorem r_setB (n m : Nat) (b v : Box) (r : List (Nat × Box)) : setB n b ((m, v) :: r) = bif n == m then (m, b) :: r else (m, v) :: setB n b r := rfl
theorem r_delN (n m : Nat) (v : Nat) (r : List (Nat × Nat)) : delN n ((m, v) :: r) = bif n == m then delN n r else (m, v) :: delN n r := rfl
theorem r_delN0 (n : Nat) : delN n [] = [] := rfl
theorem r_put (d : Nat) (v : SV) : S.put ⟨sl, bx, lv, nx⟩ (some d) v = ⟨(d, v) :: sl, bx, lv, nx⟩ := rfl
theorem r_put0 (v : SV) : S.put ⟨sl, bx, lv, nx⟩ none v = ⟨sl, bx, lv, nx⟩ := rfl
theorem r_opdt (n : Nat) : opd ⟨sl, bx, lv, nx⟩ (.t n) = lk n sl := rfl
theorem r_opdk (v : AV) : opd ⟨sl, bx, lv, nx⟩ (.k v) = some (.dat v none) := rfl
def datA : Option SV → Option AV
  | some (.dat a _) => some a
  | some (.rp cs) => some (.ref cs)
  | _ => none
theorem r_datAr (cs : List AV) : datA (some (.rp cs)) = some (.ref cs) := rfl
theorem r_datA (a : AV) (q : Option Nat) : datA (some (.dat a q)) = some a := rfl
theorem r_opdAt (n : Nat) : opdA ⟨sl, bx, lv, nx⟩ (.t n) = datA (lk n sl) := rfl
theorem r_opdAk (v : AV) : opdA ⟨sl, bx, lv, nx⟩ (.k v) = some v := rfl
def consO : Option AV → Option (List AV) → Option (List AV)
  | some a, some as => some (a :: as)
  | _, _ => none
theorem r_consO (a : AV) (as : List AV) : consO (some a) (some as) = some (a :: as) := rfl
theorem r_opdsA (x : Opd) (r : List Opd) : opdsA ⟨sl, bx, lv, nx⟩ (x :: r) = consO (opdA ⟨sl, bx, lv, nx⟩ x) (opdsA ⟨sl, bx, lv, nx⟩ r) := rfl
theorem r_opdsA0 : opdsA ⟨sl, bx, lv, nx⟩ [] = some [] := rfl
theorem r_aops0 (b i : Nat) : aops C b i [] J ⟨sl, bx, lv, nx⟩ = J ⟨sl, bx, lv, nx⟩ := rfl
theorem r_aops (b i : Nat) (d : Option Nat) (o : COp) (r : List CO) : aops C b i (⟨d, o, none⟩ :: r) J ⟨sl, bx, lv, nx⟩ = aop C (b + i) o (fun v s' => aops C b (i + 1) r J (s'.put d v)) ⟨sl, bx, lv, nx⟩ := rfl
def guardP (want : Bool) (yes no : Prop) : Option SV → Prop
  | some (.dat (.bool b) _) => (b = want → yes) ∧ (b = !want → no)
  | some .undef => no
  | _ => False
theorem r_aopsg (b i t : Nat) (w : Bool) (d : Option Nat) (o : COp) (r : List CO) : aops C b i (⟨d, o, some (t, w)⟩ :: r) J ⟨sl, bx, lv, nx⟩ =
    guardP w (aop C (b + i) o (fun v s' => aops C b (i + 1) r J (s'.put d v)) ⟨sl, bx, lv, nx⟩) (aops C b (i + 1) r J (S.put ⟨sl, bx, lv, nx⟩ d .undef)) (lk t sl) := by
  simp only [aops, aguard, guardP]
  cases lk t sl with
  | none => rfl
  | some v => cases v with
    | dat a q => cases a <;> rfl
    | ptr => rfl
    | rp => rfl
    | undef => rfl
class KP where
  yes : Prop
  no : Prop
def gd (w : Bool) (v : Option SV) [k : KP] : Prop := guardP w k.yes k.no v
theorem k_gd (w : Bool) (yes no : Prop) (v : Option SV) : guardP w yes no v = @gd w v ⟨yes, no⟩ := rfl
theorem r_guardu (w : Bool) (yes no : Prop) : @gd w (some .undef) ⟨yes, no⟩ = no := rfl
theorem r_guardt (yes no : Prop) (q : Option Nat) : @gd true (some (.dat (.bool true) q)) ⟨yes, no⟩ = yes := by simp [gd, guardP]
theorem r_guardt' (yes no : Prop) (q : Option Nat) : @gd true (some (.dat (.bool false) q)) ⟨yes, no⟩ = no := by simp [gd, guardP]
theorem r_guardf (yes no : Prop) (q : Option Nat) : @gd false (some (.dat (.bool false) q)) ⟨yes, no⟩ = yes := by simp [gd, guardP]
theorem r_guardf' (yes no : Prop) (q : Option Nat) : @gd false (some (.dat (.bool true) q)) ⟨yes, no⟩ = no := by simp [gd, guardP]
theorem r_mv (id : Nat) (x : Opd) : aop C id (.mv x) K ⟨sl, bx, lv, nx⟩ = withV (opd ⟨sl, bx, lv, nx⟩ x) fun v => K v ⟨sl, bx, lv, nx⟩ := rfl
def pickP (a b : Option SV) (k : SV → Prop) : AV → Prop
  | .bool t => withV a fun u => withV b fun v => (t = true → k u) ∧ (t = false → k v)
  | _ => False
theorem r_pick (id : Nat) (c a b : Opd) : aop C id (.pick c a b) K ⟨sl, bx, lv, nx⟩ = withV (opdA ⟨sl, bx, lv, nx⟩ c) (pickP (opd ⟨sl, bx, lv, nx⟩ a) (opd ⟨sl, bx, lv, nx⟩ b) fun v => K v ⟨sl, bx, lv, nx⟩) := rfl
def pk (a b : Option SV) (c : AV) [k : Kn SV] : Prop := pickP a b k.run c
theorem k_pk (a b : Option SV) (k : SV → Prop) (c : AV) : pickP a b k c = @pk a b c ⟨k⟩ := rfl
theorem r_pickt (k : SV → Prop) (b : Option SV) (v : SV) : @pk (some v) b (.bool true) ⟨k⟩ = withV b fun _ => k v := by simp [pk, pickP]
theorem r_pickf (k : SV → Prop) (a : Option SV) (v : SV) : @pk a (some v) (.bool false) ⟨k⟩ = withV a fun _ => k v := by
  cases a <;> simp [pk, pickP]
theorem r_alloc (id : Nat) (cs : List AV) : aop C id (.alloc cs) K ⟨sl, bx, lv, nx⟩ = K (.ptr id 0) ⟨sl, (id, ⟨cs, []⟩) :: bx, lv, nx⟩ := rfl
theorem r_box (id : Nat) (x : Opd) : aop C id (.box x) K ⟨sl, bx, lv, nx⟩ = withV (opdA ⟨sl, bx, lv, nx⟩ x) fun a => stOk a none = true ∧ K (.ptr id 0) ⟨sl, (id, ⟨a.cells, []⟩) :: bx, lv, nx⟩ := rfl
def ldP (sz : Option Nat) (bx : List (Nat × Box)) (k : SV → Prop) : SV → Prop
  | .ptr b off => withV (lkB b bx) fun x => withV (partA x.cells off sz) fun a => k (.dat a (match sz with | none => lkN off x.tags | some _ => none))
  | .rp cs => withV (partA cs 0 sz) fun a => k (.dat a none)
  | _ => False
theorem r_ld (id : Nat) (x : Opd) (sz : Option Nat) : aop C id (.ld x sz) K ⟨sl, bx, lv, nx⟩ = withV (opd ⟨sl, bx, lv, nx⟩ x) (ldP sz bx fun v => K v ⟨sl, bx, lv, nx⟩) := rfl
theorem r_ldp1 (k : SV → Prop) (b off : Nat) : ldP none bx k (.ptr b off) = withV (lkB b bx) fun x => withV (partA x.cells off none) fun a => k (.dat a (lkN off x.tags)) := rfl
theorem r_ldp2 (k : SV → Prop) (b off n : Nat) : ldP (some n) bx k (.ptr b off) = withV (lkB b bx) fun x => withV (partA x.cells off (some n)) fun a => k (.dat a none) := rfl
theorem r_ldr (k : SV → Prop) (sz : Option Nat) (cs : List AV) : ldP sz bx k (.rp cs) = withV (partA cs 0 sz) fun a => k (.dat a none) := rfl
def stTags (off sz : Nat) (q : Option Nat) (tags : List (Nat × Nat)) : List (Nat × Nat) :=
  match q with
  | some q => (off, q) :: tags.filter (fun p => p.1 < off || off + sz ≤ p.1)
  | none => tags.filter (fun p => p.1 < off || off + sz ≤ p.1)
def stV (sz off : Nat) (x : Box) (k : Box → Prop) : SV → Prop
  | .dat a q => stOk a q = true ∧ a.cells.length = sz ∧ off + sz ≤ x.cells.length ∧ k ⟨setCells x.cells off a.cells, stTags off sz q x.tags⟩
  | _ => False
def stP (sz : Nat) (bx : List (Nat × Box)) (v : Option SV) (k : List (Nat × Box) → Prop) : SV → Prop
  | .ptr b off => withV (lkB b bx) fun x => withV v (stV sz off x fun y => k (setB b y bx))
  | _ => False
theorem r_st (id : Nat) (x v : Opd) (sz : Nat) : aop C id (.st x v sz) K ⟨sl, bx, lv, nx⟩ = withV (opd ⟨sl, bx, lv, nx⟩ x) (stP sz bx (opd ⟨sl, bx, lv, nx⟩ v) fun b => K .undef ⟨sl, b, lv, nx⟩) := by
  show withV _ _ = withV _ _
  cases hx : opd ⟨sl, bx, lv, nx⟩ x with
  | none => rfl
  | some p => cases p with
    | ptr b off =>
      show withV _ _ = withV _ _
      cases hb : lkB b bx with
      | none => rfl
      | some y =>
        show withV _ _ = withV _ _
        cases hv : opd ⟨sl, bx, lv, nx⟩ v with
        | none => rfl
        | some u => cases u with
          | dat a q => cases q <;> rfl
          | _ => rfl
    | _ => rfl
theorem r_stp (sz b off : Nat) (v : Option SV) (k : List (Nat × Box) → Prop) : stP sz bx v k (.ptr b off) = withV (lkB b bx) fun x => withV v (stV sz off x fun y => k (setB b y bx)) := rfl
theorem r_stv (sz off : Nat) (cs : List AV) (tg : List (Nat × Nat)) (k : Box → Prop) (a : AV) (q : Option Nat) : stV sz off ⟨cs, tg⟩ k (.dat a q) = (stOk a q = true ∧ a.cells.length = sz ∧ off + sz ≤ cs.length ∧ k ⟨setCells cs off a.cells, stTags off sz q tg⟩) := rfl
theorem r_tags0 (off sz : Nat) : stTags off sz none [] = [] := rfl
theorem r_tags1 (off sz q : Nat) : stTags off sz (some q) [] = [(off, q)] := rfl
def faP (off : Nat) (k : SV → Prop) : SV → Prop
  | .ptr b o => k (.ptr b (o + off))
  | .rp cs => k (.rp (cs.drop off))
  | _ => False
theorem r_fa (id : Nat) (x : Opd) (off : Nat) : aop C id (.fa x off) K ⟨sl, bx, lv, nx⟩ = withV (opd ⟨sl, bx, lv, nx⟩ x) (faP off fun v => K v ⟨sl, bx, lv, nx⟩) := rfl
theorem r_fap (k : SV → Prop) (b o off : Nat) : faP off k (.ptr b o) = k (.ptr b (o + off)) := rfl
theorem r_far (k : SV → Prop) (cs : List AV) (off : Nat) : faP off k (.rp cs) = k (.rp (cs.drop off)) := rfl
def iaP (d : Nat) (k : SV → Prop) : SV → Prop
  | .ptr b o => k (.ptr b (o + d))
  | .rp cs => k (.rp (cs.drop d))
  | _ => False
theorem r_iaA (id : Nat) (x i : Opd) (n z : Nat) : aop C id (.iaA x i n z) K ⟨sl, bx, lv, nx⟩ = withV (opd ⟨sl, bx, lv, nx⟩ x) fun p => withV (opdA ⟨sl, bx, lv, nx⟩ i) fun a => withV (idxOf a) fun i => (0 ≤ i ∧ i < n) ∧ iaP (i.toNat * z) (fun v => K v ⟨sl, bx, lv, nx⟩) p := rfl
theorem r_iap (k : SV → Prop) (b o d : Nat) : iaP d k (.ptr b o) = k (.ptr b (o + d)) := rfl
theorem r_iar (k : SV → Prop) (cs : List AV) (d : Nat) : iaP d k (.rp cs) = k (.rp (cs.drop d)) := rfl
theorem r_idx (k : IntKind) (i : Int) : idxOf (.int k i) = some i := rfl
theorem r_iaS (id : Nat) (x i : Opd) (z : Nat) : aop C id (.iaS x i z) K ⟨sl, bx, lv, nx⟩ = withV (opdA ⟨sl, bx, lv, nx⟩ x) fun l => withV (opdA ⟨sl, bx, lv, nx⟩ i) fun a => withV (idxOf a) fun i => withV (rowsOf l) fun xs => (0 ≤ i ∧ i < xs.length) ∧ withV (xs[i.toNat]?) fun row => row.length = z ∧ K (.rp row) ⟨sl, bx, lv, nx⟩ := rfl
theorem r_rows (xs : List (List AV)) : rowsOf (.sl xs) = some xs := rfl
theorem r_rows0 : rowsOf .nils = some [] := rfl
def aggP (k : List AV → Prop) : AV → Prop
  | .agg cs => k cs
  | _ => False
theorem r_agg (k : List AV → Prop) (cs : List AV) : aggP k (.agg cs) = k cs := rfl
theorem r_fld (id : Nat) (x : Opd) (off : Nat) (sz : Option Nat) : aop C id (.fld x off sz) K ⟨sl, bx, lv, nx⟩ = withV (opdA ⟨sl, bx, lv, nx⟩ x) (aggP fun cs => withV (partA cs off sz) fun a => K (.dat a none) ⟨sl, bx, lv, nx⟩) := rfl
theorem r_ixA (id : Nat) (x i : Opd) (n z : Nat) (sz : Option Nat) : aop C id (.ixA x i n z sz) K ⟨sl, bx, lv, nx⟩ = withV (opdA ⟨sl, bx, lv, nx⟩ x) (aggP fun cs => withV (opdA ⟨sl, bx, lv, nx⟩ i) fun a => withV (idxOf a) fun i => (0 ≤ i ∧ i < n) ∧ withV (partA cs (i.toNat * z) sz) fun a => K (.dat a none) ⟨sl, bx, lv, nx⟩) := rfl
theorem r_bin (id : Nat) (op : BinOp) (x y : Opd) : aop C id (.bin op x y) K ⟨sl, bx, lv, nx⟩ = withV (opdA ⟨sl, bx, lv, nx⟩ x) fun a => withV (opdA ⟨sl, bx, lv, nx⟩ y) fun b => withV (binA op a b) fun v => K (.dat v none) ⟨sl, bx, lv, nx⟩ := rfl
theorem r_eqc (id : Nat) (ks : List CK) (neg : Bool) (x y : Opd) : aop C id (.eqc ks neg x y) K ⟨sl, bx, lv, nx⟩ = withV (opdA ⟨sl, bx, lv, nx⟩ x) (aggP fun as => withV (opdA ⟨sl, bx, lv, nx⟩ y) (aggP fun bs => withV (cellsEq ks as bs) fun e => K (.dat (.bool (e != neg)) none) ⟨sl, bx, lv, nx⟩)) := rfl
theorem r_bb (id : Nat) (neg : Bool) (x y : Opd) : aop C id (.bb neg x y) K ⟨sl, bx, lv, nx⟩ = withV (opdA ⟨sl, bx, lv, nx⟩ x) fun a => withV (opdA ⟨sl, bx, lv, nx⟩ y) fun b => withV (bbA neg a b) fun v => K (.dat v none) ⟨sl, bx, lv, nx⟩ := rfl
theorem r_un (id : Nat) (op : UnOp) (x : Opd) : aop C id (.un op x) K ⟨sl, bx, lv, nx⟩ = withV (opdA ⟨sl, bx, lv, nx⟩ x) fun a => withV (unA op a) fun v => K (.dat v none) ⟨sl, bx, lv, nx⟩ := rfl
theorem r_cvII (id : Nat) (k : IntKind) (x : Opd) : aop C id (.cvII k x) K ⟨sl, bx, lv, nx⟩ = withV (opdA ⟨sl, bx, lv, nx⟩ x) fun a => withV (cvIIA k a) fun v => K (.dat v none) ⟨sl, bx, lv, nx⟩ := rfl
theorem r_cvIF (id : Nat) (k : FloatKind) (x : Opd) : aop C id (.cvIF k x) K ⟨sl, bx, lv, nx⟩ = withV (opdA ⟨sl, bx, lv, nx⟩ x) fun a => withV (cvIFA k a) fun v => K (.dat v none) ⟨sl, bx, lv, nx⟩ := rfl
theorem r_cvFI (id : Nat) (k : IntKind) (x : Opd) : aop C id (.cvFI k x) K ⟨sl, bx, lv, nx⟩ = withV (opdA ⟨sl, bx, lv, nx⟩ x) fun a => withV (cvFIA k a) fun v => K (.dat v none) ⟨sl, bx, lv, nx⟩ := rfl
theorem r_lenS (id : Nat) (x : Opd) : aop C id (.lenS x) K ⟨sl, bx, lv, nx⟩ = withV (opdA ⟨sl, bx, lv, nx⟩ x) fun a => withV (lenA a) fun v => K (.dat v none) ⟨sl, bx, lv, nx⟩ := rfl
theorem r_xt (id : Nat) (e : Xt) (x : Opd) : aop C id (.xt e x) K ⟨sl, bx, lv, nx⟩ = withV (opdA ⟨sl, bx, lv, nx⟩ x) fun a => withV (xtA e a) fun v => K (.dat v none) ⟨sl, bx, lv, nx⟩ := rfl
theorem r_xb (b : Nat) : xtA .fbits (.float .f64 b) = some (.int .u64 b) := rfl
theorem r_xf (n : Int) : xtA .ffrom (.int .u64 n) = some (.float .f64 n.toNat) := rfl
theorem r_xr (b : Nat) : xtA .rte (.float .f64 b) = rteA b := rfl
def slAP (n z : Nat) (s : S) (k : SV → S → Prop) : SV → Prop
  | .rp cs => n * z ≤ cs.length ∧ k (.dat (.sl (chunkA z n cs)) none) s
  | .ptr b off => 4 ≤ b ∧ withV (lkB b s.boxes) fun bx => n * z ≤ (bx.cells.drop off).length ∧ k (.dat (.sl (chunkA z n (bx.cells.drop off))) none) (frzs [b] [bx.cells] s)
  | _ => False
theorem r_slA (id : Nat) (x : Opd) (n z : Nat) : aop C id (.slA x n z) K ⟨sl, bx, lv, nx⟩ = withV (opd ⟨sl, bx, lv, nx⟩ x) (slAP n z ⟨sl, bx, lv, nx⟩ K) := by
  show withV _ _ = withV _ _
  cases opd ⟨sl, bx, lv, nx⟩ x with
  | none => rfl
  | some v => cases v <;> rfl
theorem r_slA1 (n z : Nat) (s : S) (k : SV → S → Prop) (cs : List AV) : slAP n z s k (.rp cs) = (n * z ≤ cs.length ∧ k (.dat (.sl (chunkA z n cs)) none) s) := rfl
theorem r_slA2 (n z : Nat) (k : SV → S → Prop) (b off : Nat) : slAP n z ⟨sl, bx, lv, nx⟩ k (.ptr b off) = (4 ≤ b ∧ withV (lkB b bx) fun y => n * z ≤ (y.cells.drop off).length ∧ k (.dat (.sl (chunkA z n (y.cells.drop off))) none) (frzs [b] [y.cells] ⟨sl, bx, lv, nx⟩)) := rfl
def ixBP (s : S) (i : Opd) (k : AV → Prop) : AV → Prop
  | .str b => withV (opdA s i) fun a => withV (idxOf a) fun j => withV (byteA b j) k
  | _ => False
theorem r_ixB (id : Nat) (x i : Opd) : aop C id (.ixB x i) K ⟨sl, bx, lv, nx⟩ = withV (opdA ⟨sl, bx, lv, nx⟩ x) (ixBP ⟨sl, bx, lv, nx⟩ i fun v => K (.dat v none) ⟨sl, bx, lv, nx⟩) := by
  show withV _ _ = withV _ _
  cases opdA ⟨sl, bx, lv, nx⟩ x with
  | none => rfl
  | some v => cases v <;> rfl
theorem r_ixBs (s : S) (i : Opd) (k : AV → Prop) (b : ByteArray) : ixBP s i k (.str b) = withV (opdA s i) fun a => withV (idxOf a) fun j => withV (byteA b j) k := rfl
theorem r_lenK (id n : Nat) : aop C id (.lenK n) K ⟨sl, bx, lv, nx⟩ = K (.dat (.int .i64 n) none) ⟨sl, bx, lv, nx⟩ := rfl
theorem r_call (id f : Nat) (args : List Opd) : aop C id (.call f args) K ⟨sl, bx, lv, nx⟩ = withV (opdsA ⟨sl, bx, lv, nx⟩ args) fun as => callP C f as id lv fun v l => K v ⟨sl, bx, l, nx⟩ := rfl
def callvP (C : Con) (id : Nat) (lv : List (Nat × Nat)) (as : List AV) (k : SV → List (Nat × Nat) → Prop) : AV → Prop
  | .fn (.func f) first caps => callP C f (first ++ as ++ caps) id lv k
  | _ => False
@[congr] theorem g_callvP (id : Nat) (lv : List (Nat × Nat)) (as : List AV) (k : SV → List (Nat × Nat) → Prop) {v v' : AV} (h : v = v') : callvP C id lv as k v = callvP C id lv as k v' := by rw [h]
def consP : Option SV → Option (List (Option AV) × List Nat) → Option (List (Option AV) × List Nat)
  | some (.dat a _), some p => some (some a :: p.1, p.2)
  | some (.rp cs), some p => some (some (.ref cs) :: p.1, p.2)
  | some (.ptr b 0), some p => some (none :: p.1, b :: p.2)
  | _, _ => none
theorem r_consPd (a : AV) (q : Option Nat) (p : List (Option AV) × List Nat) : consP (some (.dat a q)) (some p) = some (some a :: p.1, p.2) := rfl
theorem r_consPr (cs : List AV) (p : List (Option AV) × List Nat) : consP (some (.rp cs)) (some p) = some (some (.ref cs) :: p.1, p.2) := rfl
theorem r_consPp (b : Nat) (p : List (Option AV) × List Nat) : consP (some (.ptr b 0)) (some p) = some (none :: p.1, b :: p.2) := rfl
theorem r_svs0 : svsA ⟨sl, bx, lv, nx⟩ [] = some ([], []) := rfl
theorem r_svs (x : Opd) (r : List Opd) : svsA ⟨sl, bx, lv, nx⟩ (x :: r) = consP (opd ⟨sl, bx, lv, nx⟩ x) (svsA ⟨sl, bx, lv, nx⟩ r) := by
  show (match opd ⟨sl, bx, lv, nx⟩ x, svsA ⟨sl, bx, lv, nx⟩ r with
    | some (.dat a _), some (as, bs) => some (some a :: as, bs)
    | some (.rp cs), some (as, bs) => some (some (.ref cs) :: as, bs)
    | some (.ptr b 0), some (as, bs) => some (none :: as, b :: bs)
    | _, _ => none) = _
  unfold consP
  cases opd ⟨sl, bx, lv, nx⟩ x with
  | none => rfl
  | some v =>
    cases svsA ⟨sl, bx, lv, nx⟩ r with
    | none => cases v with
      | ptr b o => cases o <;> rfl
      | _ => rfl
    | some p => cases v with
      | ptr b o => cases o <;> rfl
      | _ => rfl
theorem r_cells0 : cellsA bx [] = some [] := rfl
def consC : Option Box → Option (List (List AV)) → Option (List (List AV))
  | some x, some css => some (x.cells :: css)
  | _, _ => none
theorem r_consC (x : Box) (css : List (List AV)) : consC (some x) (some css) = some (x.cells :: css) := rfl
theorem r_cells (b : Nat) (bs : List Nat) : cellsA bx (b :: bs) = consC (lkB b bx) (cellsA bx bs) := rfl
theorem r_nodup0 : nodupB [] = true := rfl
theorem r_nodup (b : Nat) (bs : List Nat) : nodupB (b :: bs) = (!bs.contains b && nodupB bs) := rfl
theorem r_setBs (b : Nat) (bs : List Nat) (cs : List AV) (css : List (List AV)) : setBs (b :: bs) (cs :: css) bx = setBs bs css (setB b ⟨cs, []⟩ bx) := rfl
theorem r_setBs0 (css : List (List AV)) : setBs [] css bx = bx := rfl
def callpK (C : Con) (f id : Nat) (bx : List (Nat × Box)) (lv : List (Nat × Nat)) (k : SV → List (Nat × Box) → List (Nat × Nat) → Prop) (p : List (Option AV) × List Nat) : Prop :=
  nodupB p.2 = true ∧ withV (cellsA bx p.2) fun css => callPP C f css p.1 p.2 id bx lv k
theorem r_callpK (f id : Nat) (as : List (Option AV)) (ids : List Nat) (k : SV → List (Nat × Box) → List (Nat × Nat) → Prop) : callpK C f id bx lv k (as, ids) = (nodupB ids = true ∧ withV (cellsA bx ids) fun css => callPP C f css as ids id bx lv k) := rfl
theorem r_callp (id f : Nat) (args : List Opd) : aop C id (.callp f args) K ⟨sl, bx, lv, nx⟩ = withV (svsA ⟨sl, bx, lv, nx⟩ args) (callpK C f id bx lv fun v b l => K v ⟨sl, b, l, nx⟩) := rfl
theorem r_callv (id : Nat) (g : Opd) (args : List Opd) : aop C id (.callv g args) K ⟨sl, bx, lv, nx⟩ = withV (opdA ⟨sl, bx, lv, nx⟩ g) fun a => withV (opdsA ⟨sl, bx, lv, nx⟩ args) fun as => callvP C id lv as (fun v l => K v ⟨sl, bx, l, nx⟩) a := by
  show withV _ _ = withV _ _
  cases hx : opdA ⟨sl, bx, lv, nx⟩ g with
  | none => rfl
  | some a =>
    show (match a with | .fn (.func f) first caps => _ | _ => False) = _
    cases hy : opdsA ⟨sl, bx, lv, nx⟩ args with
    | none => cases a <;> first | rfl | (rename_i f _ _; cases f <;> rfl)
    | some as => cases a <;> first | rfl | (rename_i f _ _; cases f <;> rfl)
theorem r_callvf (id f : Nat) (as first caps : List AV) (k : SV → List (Nat × Nat) → Prop) : callvP C id lv as k (.fn (.func f) first caps) = callP C f (first ++ as ++ caps) id lv k := rfl
def callvpP (C : Con) (id : Nat) (bx : List (Nat × Box)) (lv : List (Nat × Nat)) (p : List (Option AV) × List Nat) (k : SV → List (Nat × Box) → List (Nat × Nat) → Prop) : AV → Prop
  | .fn (.func f) [] [] => callpK C f id bx lv k p
  | _ => False
@[congr] theorem g_callvpP (id : Nat) (bx : List (Nat × Box)) (lv : List (Nat × Nat)) {p p' : List (Option AV) × List Nat} (k : SV → List (Nat × Box) → List (Nat × Nat) → Prop) {v v' : AV} (h1 : p = p') (h : v = v') : callvpP C id bx lv p k v = callvpP C id bx lv p' k v' := by rw [h, h1]
theorem r_callvp (id : Nat) (g : Opd) (args : List Opd) : aop C id (.callvp g args) K ⟨sl, bx, lv, nx⟩ = withV (opdA ⟨sl, bx, lv, nx⟩ g) fun a => withV (svsA ⟨sl, bx, lv, nx⟩ args) fun p => callvpP C id bx lv p (fun v b l => K v ⟨sl, b, l, nx⟩) a := by
  show withV _ _ = withV _ _
  cases hx : opdA ⟨sl, bx, lv, nx⟩ g with
  | none => rfl
  | some a =>
    show (match a with | .fn (.func f) [] [] => _ | _ => False) = _
    cases hy : svsA ⟨sl, bx, lv, nx⟩ args with
    | none => cases a <;> first | rfl | (rename_i f x y; cases f <;> first | rfl | (cases x <;> first | rfl | (cases y <;> rfl)))
    | some as => cases a <;> first | rfl | (rename_i f x y; cases f <;> first | rfl | (cases x <;> first | rfl | (cases y <;> rfl)))
theorem r_callvpf (id f : Nat) (p : List (Option AV) × List Nat) (k : SV → List (Nat × Box) → List (Nat × Nat) → Prop) : callvpP C id bx lv p k (.fn (.func f) [] []) = callpK C f id bx lv k p := rfl
theorem r_isn (id : Nat) (neg : Bool) (x : Opd) : aop C id (.isn neg x) K ⟨sl, bx, lv, nx⟩ = withV (opdA ⟨sl, bx, lv, nx⟩ x) fun a => withV (nilA neg a) fun v => K (.dat (.bool v) none) ⟨sl, bx, lv, nx⟩ := rfl
theorem r_ext (id : Nat) (x : Opd) (i : Nat) : aop C id (.ext x i) K ⟨sl, bx, lv, nx⟩ = withV (opdA ⟨sl, bx, lv, nx⟩ x) fun a => withV (extA a i) fun v => K (.dat v none) ⟨sl, bx, lv, nx⟩ := rfl
theorem r_frz1 (b : Nat) (cs : List AV) (b' o : Nat) : frzV b cs (.ptr b' o) = bif b' == b then .rp (cs.drop o) else .ptr b' o := rfl
theorem r_frz2 (b : Nat) (cs : List AV) (a : AV) (q : Option Nat) : frzV b cs (.dat a q) = .dat a q := rfl
theorem r_frz3 (b : Nat) (cs cs' : List AV) : frzV b cs (.rp cs') = .rp cs' := rfl
theorem r_frz4 (b : Nat) (cs : List AV) : frzV b cs .undef = .undef := rfl
theorem r_frzL0 (b : Nat) (cs : List AV) : frzL b cs [] = [] := rfl
theorem r_frzL (b : Nat) (cs : List AV) (t : Nat) (v : SV) (r : List (Nat × SV)) : frzL b cs ((t, v) :: r) = (t, frzV b cs v) :: frzL b cs r := rfl
theorem r_delB0 (n : Nat) : delB n [] = [] := rfl
theorem r_delB (n m : Nat) (v : Box) (r : List (Nat × Box)) : delB n ((m, v) :: r) = bif n == m then delB n r else (m, v) :: delB n r := rfl
theorem r_frzs0 (css : List (List AV)) (s : S) : frzs [] css s = s := rfl
theorem r_frzs (b : Nat) (bs : List Nat) (cs : List AV) (css : List (List AV)) : frzs (b :: bs) (cs :: css) ⟨sl, bx, lv, nx⟩ = frzs bs css ⟨frzL b cs sl, delB b bx, lv, nx⟩ := rfl
theorem r_fillP0 (css : List (List AV)) : fillP [] css = [] := by cases css <;> rfl
theorem r_fillPs (a : AV) (as : List (Option AV)) (css : List (List AV)) : fillP (some a :: as) css = a :: fillP as css := by cases css <;> rfl
theorem r_fillPn (as : List (Option AV)) (cs : List AV) (css : List (List AV)) : fillP (none :: as) (cs :: css) = .ref cs :: fillP as css := rfl
theorem r_own0 : ownIds [] = true := rfl
theorem r_own (b : Nat) (bs : List Nat) : ownIds (b :: bs) = (decide (4 ≤ b) && ownIds bs) := rfl
def mkfK (fn : Fn) (as : List AV) (s : S) (k : SV → S → Prop) (p : List (Option AV) × List Nat) : Prop :=
  (nodupB p.2 && ownIds p.2) = true ∧ withV (cellsA s.boxes p.2) fun css => k (.dat (.fn fn as (fillP p.1 css)) none) (frzs p.2 css s)
theorem r_mkfK (fn : Fn) (as : List AV) (k : SV → S → Prop) (ps : List (Option AV)) (ids : List Nat) : mkfK fn as ⟨sl, bx, lv, nx⟩ k (ps, ids) = ((nodupB ids && ownIds ids) = true ∧ withV (cellsA bx ids) fun css => k (.dat (.fn fn as (fillP ps css)) none) (frzs ids css ⟨sl, bx, lv, nx⟩)) := rfl
theorem r_mkf (id : Nat) (fn : Fn) (a b : List Opd) : aop C id (.mkf fn a b) K ⟨sl, bx, lv, nx⟩ = withV (opdsA ⟨sl, bx, lv, nx⟩ a) fun as => withV (svsA ⟨sl, bx, lv, nx⟩ b) (mkfK fn as ⟨sl, bx, lv, nx⟩ K) := rfl
def mmP (mx : Bool) (k : AV → Prop) : List AV → Prop
  | [] => False
  | a :: r => withV (r.foldlM (mmA mx) a) k
theorem r_mm (id : Nat) (mx : Bool) (args : List Opd) : aop C id (.mm mx args) K ⟨sl, bx, lv, nx⟩ = withV (opdsA ⟨sl, bx, lv, nx⟩ args) (mmP mx fun v => K (.dat v none) ⟨sl, bx, lv, nx⟩) := by
  show withV _ _ = withV _ _
  cases opdsA ⟨sl, bx, lv, nx⟩ args with
  | none => rfl
  | some l => cases l <;> rfl
theorem r_mm2 (mx : Bool) (k : AV → Prop) (a b : AV) : mmP mx k [a, b] = withV (mmA mx a b) k := by simp [mmP]
theorem r_mmI (kd : IntKind) (x y : Int) : mmA true (.int kd x) (.int kd y) = some (.int kd (if y > x then y else x)) := rfl
theorem r_mmI' (kd : IntKind) (x y : Int) : mmA false (.int kd x) (.int kd y) = some (.int kd (if y < x then y else x)) := rfl
theorem r_build (id : Nat) (zs : List AV) (parts : List (Nat × Nat × Opd)) : aop C id (.build zs parts) K ⟨sl, bx, lv, nx⟩ = withV (partsA ⟨sl, bx, lv, nx⟩ parts) fun ps => K (.dat (.agg (fillA zs ps)) none) ⟨sl, bx, lv, nx⟩ := rfl
def partO (off sz : Nat) : Option AV → Option (List (Nat × List AV)) → Option (List (Nat × List AV))
  | some a, some ps => if a.cells.length = sz ∧ stOk a none = true then some ((off, a.cells) :: ps) else none
  | _, _ => none
theorem r_partsA (off sz : Nat) (x : Opd) (r : List (Nat × Nat × Opd)) : partsA ⟨sl, bx, lv, nx⟩ ((off, sz, x) :: r) = partO off sz (opdA ⟨sl, bx, lv, nx⟩ x) (partsA ⟨sl, bx, lv, nx⟩ r) := rfl
theorem r_partsA0 : partsA ⟨sl, bx, lv, nx⟩ [] = some [] := rfl
theorem r_partO (off sz : Nat) (a : AV) (ps : List (Nat × List AV)) (h : a.cells.length = sz) (h' : stOk a none = true) : partO off sz (some a) (some ps) = some ((off, a.cells) :: ps) := by simp [partO, h, h']
theorem r_bsl (id e z : Nat) (xs : List Opd) : aop C id (.bsl e z xs) K ⟨sl, bx, lv, nx⟩ = withV (rowsA ⟨sl, bx, lv, nx⟩ z xs) fun rows => K (.dat (.sl rows) (some id)) ⟨sl, bx, (id, e) :: lv, nx⟩ := rfl
def rowO (z : Nat) : Option AV → Option (List (List AV)) → Option (List (List AV))
  | some a, some rows => if a.cells.length = z ∧ stOk a none = true then some (a.cells :: rows) else none
  | _, _ => none
theorem r_rowsA (z : Nat) (x : Opd) (r : List Opd) : rowsA ⟨sl, bx, lv, nx⟩ z (x :: r) = rowO z (opdA ⟨sl, bx, lv, nx⟩ x) (rowsA ⟨sl, bx, lv, nx⟩ z r) := rfl
theorem r_rowsA0 (z : Nat) : rowsA ⟨sl, bx, lv, nx⟩ z [] = some [] := rfl
theorem r_rowO (z : Nat) (a : AV) (rows : List (List AV)) (h : a.cells.length = z) (h' : stOk a none = true) : rowO z (some a) (some rows) = some (a.cells :: rows) := by simp [rowO, h, h']
theorem r_app (id e z bytes : Nat) (x y : Opd) : aop C id (.app e z bytes x y) K ⟨sl, bx, lv, nx⟩ = withV (opd ⟨sl, bx, lv, nx⟩ x) fun
      | .dat a q => withV (rowsOf a) fun xs => withV (opdA ⟨sl, bx, lv, nx⟩ y) fun b => withV (rowsOf b) fun ys =>
          (xs.length + ys.length) * bytes ≤ 140737488355328 ∧ (∀ r ∈ xs, r.length = z) ∧ (∀ r ∈ ys, r.length = z) ∧
          (match a, q with
           | .nils, _ => if ys = [] then K (.dat .nils none) ⟨sl, bx, lv, nx⟩ else K (.dat (.sl (xs ++ ys)) (some id)) ⟨sl, bx, (id, e) :: lv, nx⟩
           | .sl _, some q => lkN q lv = some e ∧ K (.dat (.sl (xs ++ ys)) (some id)) ⟨sl, bx, (id, e) :: delN q lv, nx⟩
           | _, _ => False)
      | _ => False := rfl
theorem r_slS (id z : Nat) (x : Opd) (lo hi : Option Opd) : aop C id (.slS z x lo hi) K ⟨sl, bx, lv, nx⟩ = withV (opdA ⟨sl, bx, lv, nx⟩ x) fun a => withV (rowsOf a) fun xs => withV (bndL ⟨sl, bx, lv, nx⟩ lo) fun l => withV (bndH ⟨sl, bx, lv, nx⟩ xs hi) fun h => (0 ≤ l ∧ l ≤ h ∧ h ≤ xs.length) ∧ (∀ r ∈ xs, r.length = z) ∧ K (.dat (cutA a xs l h) none) ⟨sl, bx, lv, nx⟩ := rfl
theorem r_bndL0 : bndL ⟨sl, bx, lv, nx⟩ none = some 0 := rfl
theorem r_bndL (x : Opd) : bndL ⟨sl, bx, lv, nx⟩ (some x) = idxO (opdA ⟨sl, bx, lv, nx⟩ x) := by cases h : opdA ⟨sl, bx, lv, nx⟩ x <;> simp [bndL, idxO, h]
theorem r_bndH0 (xs : List (List AV)) : bndH ⟨sl, bx, lv, nx⟩ xs none = some (xs.length : Int) := rfl
theorem r_bndH (xs : List (List AV)) (x : Opd) : bndH ⟨sl, bx, lv, nx⟩ xs (some x) = idxO (opdA ⟨sl, bx, lv, nx⟩ x) := by cases h : opdA ⟨sl, bx, lv, nx⟩ x <;> simp [bndH, idxO, h]
theorem r_idxO (k : IntKind) (i : Int) : idxO (some (.int k i)) = some i := rfl
theorem r_cut (xs ys : List (List AV)) (l h : Int) : cutA (.sl ys) xs l h = .sl ((xs.take h.toNat).drop l.toNat) := rfl
theorem r_cut0 (xs : List (List AV)) (l h : Int) : cutA .nils xs l h = .nils := rfl
def ncP (k : SV → Prop) : SV → Prop
  | .ptr b o => k (.ptr b o)
  | .rp cs => k (.rp cs)
  | .dat (.fn (.func f) as bs) q => k (.dat (.fn (.func f) as bs) q)
  | _ => False
theorem r_nc (id : Nat) (x : Opd) : aop C id (.nc x) K ⟨sl, bx, lv, nx⟩ = withV (opd ⟨sl, bx, lv, nx⟩ x) (ncP fun v => K v ⟨sl, bx, lv, nx⟩) := by
  show withV _ _ = withV _ _
  cases opd ⟨sl, bx, lv, nx⟩ x with
  | none => rfl
  | some v => cases v with
    | dat a q => cases a <;> first | rfl | (rename_i f _ _; cases f <;> rfl)
    | _ => rfl
theorem r_ncp (k : SV → Prop) (b o : Nat) : ncP k (.ptr b o) = k (.ptr b o) := rfl
theorem r_ncr (k : SV → Prop) (cs : List AV) : ncP k (.rp cs) = k (.rp cs) := rfl
theorem r_skip : aw C .skip Q ⟨sl, bx, lv, nx⟩ = Q .normal ⟨sl, bx, lv, nx⟩ := rfl
def bump (k : S → Prop) (n : Nat) : S → Prop := fun s => k { s with nx := n }
theorem r_reg (ops : List CO) : aw C (.reg ops) Q ⟨sl, bx, lv, nx⟩ = aops C nx 0 ops (bump (Q .normal) (nx + ops.length)) ⟨sl, bx, lv, nx⟩ := rfl
def dynG (b : Bool) (K : Prop) : Prop := b = true ∧ K
class KQ where
  k : Prop
def dg (b : Bool) [k : KQ] : Prop := dynG b k.k
theorem k_dg (b : Bool) (K : Prop) : dynG b K = @dg b ⟨K⟩ := rfl
theorem r_regD (ops : List CO) (bad : List (Nat × Nat)) : aw C (.regD ops bad) Q ⟨sl, bx, lv, nx⟩ = dynG (dynOk ops bad nx sl) (aops C nx 0 ops (bump (Q .normal) (nx + ops.length)) ⟨sl, bx, lv, nx⟩) := rfl
theorem r_bump (k : S → Prop) (n : Nat) : bump k n ⟨sl, bx, lv, nx⟩ = k ⟨sl, bx, lv, n⟩ := rfl
theorem r_seq (a b : CCode) : aw C (.seq a b) Q ⟨sl, bx, lv, nx⟩ = aw C a (athen (aw C b Q) Q) ⟨sl, bx, lv, nx⟩ := rfl
theorem r_join (a b : CCode) : aw C (.join a b) Q ⟨sl, bx, lv, nx⟩ = aw C a (athen (down (aw C b Q)) Q) ⟨sl, bx, lv, nx⟩ := rfl
def condP (a b : Prop) : AV → Prop
  | .bool t => (t = true → a) ∧ (t = false → b)
  | _ => False
theorem r_cond (c : Opd) (a b : CCode) : aw C (.cond c a b) Q ⟨sl, bx, lv, nx⟩ = withV (opdA ⟨sl, bx, lv, nx⟩ c) (condP (aw C a Q ⟨sl, bx, lv, nx⟩) (aw C b Q ⟨sl, bx, lv, nx⟩)) := rfl
def cd (c : AV) [k : KP] : Prop := condP k.yes k.no c
theorem k_cd (a b : Prop) (c : AV) : condP a b c = @cd c ⟨a, b⟩ := rfl
theorem r_condt (a b : Prop) : @cd (.bool true) ⟨a, b⟩ = a := by simp [cd, condP]
theorem r_condf (a b : Prop) : @cd (.bool false) ⟨a, b⟩ = b := by simp [cd, condP]
theorem r_block (id : Nat) (c : CCode) : aw C (.block id c) Q ⟨sl, bx, lv, nx⟩ = aw C c (ablock id Q) ⟨sl, bx, lv, nx⟩ := rfl
theorem r_exit (id : Nat) : aw C (.exit id) Q ⟨sl, bx, lv, nx⟩ = Q (.exit id) ⟨sl, bx, lv, nx⟩ := rfl
theorem r_ret : aw C .ret Q ⟨sl, bx, lv, nx⟩ = Q .ret ⟨sl, bx, lv, nx⟩ := rfl
theorem r_scope (l : Nat) (c r : CCode) : aw C (.scope l c r) Q ⟨sl, bx, lv, nx⟩ = aw C c (scopeQ l (aw C r (noGo Q)) Q) ⟨sl, bx, lv, nx⟩ := rfl
theorem r_label (l : Nat) : aw C (.label l) Q ⟨sl, bx, lv, nx⟩ = Q .normal ⟨sl, bx, lv, nx⟩ := rfl
theorem r_goto (l : Nat) : aw C (.goto l) Q ⟨sl, bx, lv, nx⟩ = Q (.goto l) ⟨sl, bx, lv, nx⟩ := rfl
theorem r_then4 (k : S → Prop) (s : S) (l : Nat) : athen k Q (.goto l) s = Q (.goto l) s := rfl
theorem r_blk5 (id : Nat) (s : S) (l : Nat) : ablock id Q (.goto l) s = Q (.goto l) s := rfl
theorem r_sc1 (l : Nat) (k : S → Prop) (s : S) : scopeQ l k Q .normal s = Q .normal s := rfl
theorem r_sc2 (l : Nat) (k : S → Prop) (s : S) : scopeQ l k Q .ret s = Q .ret s := rfl
theorem r_sc3 (l : Nat) (k : S → Prop) (s : S) (id : Nat) : scopeQ l k Q (.exit id) s = Q (.exit id) s := rfl
theorem r_sc4 (l : Nat) (k : S → Prop) (s : S) (l' : Nat) : scopeQ l k Q (.goto l') s = (l' = l ∧ k s) := rfl
theorem r_ng1 (s : S) : noGo Q .normal s = Q .normal s := rfl
theorem r_ng2 (s : S) : noGo Q .ret s = Q .ret s := rfl
theorem r_ng3 (s : S) (id : Nat) : noGo Q (.exit id) s = Q (.exit id) s := rfl
theorem r_then1 (k : S → Prop) (s : S) : athen k Q .normal s = k s := rfl
theorem r_then2 (k : S → Prop) (s : S) : athen k Q .ret s = Q .ret s := rfl
theorem r_then3 (k : S → Prop) (s : S) (id : Nat) : athen k Q (.exit id) s = Q (.exit id) s := rfl
theorem r_blk1 (id : Nat) (s : S) : ablock id Q .normal s = Q .normal s := rfl
theorem r_blk2 (id : Nat) (s : S) : ablock id Q .ret s = Q .ret s := rfl
theorem r_blk3 (id : Nat) (s : S) : ablock id Q (.exit id) s = Q .normal s := by simp [ablock]
theorem r_blk4 (id id' : Nat) (s : S) (h : (id' == id) = false) : ablock id Q (.exit id') s = Q (.exit id') s := by
  have : id' ≠ id := by simpa using h
  simp [ablock, this]
end
section
variable {C : Con} {Q : Exit → S → Prop} {K : SV → S → Prop} {J : S → Prop}
@[congr] theorem g_withV {α : Type} {o o' : Option α} (k : α → Prop) (h : o = o') : withV o k = withV o' k := by rw [h]
@[congr] theorem g_aop (id : Nat) (o : COp) (s : S) : aop C id o K s = aop C id o K s := rfl
@[congr] theorem g_aops (b i : Nat) (l : List CO) (s : S) : aops C b i l J s = aops C b i l J s := rfl
@[congr] theorem g_aw (c : CCode) (s : S) : aw C c Q s = aw C c Q s := rfl
@[congr] theorem g_athen (e : Exit) (s : S) : athen J Q e s = athen J Q e s := rfl
@[congr] theorem g_scopeQ {J : S → Prop} (l : Nat) (e : Exit) (s : S) : scopeQ l J Q e s = scopeQ l J Q e s := rfl
@[congr] theorem g_noGo (e : Exit) (s : S) : noGo Q e s = noGo Q e s := rfl
@[congr] theorem g_ablock (id : Nat) (e : Exit) (s : S) : ablock id Q e s = ablock id Q e s := rfl
@[congr] theorem g_bump (n : Nat) (s : S) : bump J n s = bump J n s := rfl
@[congr] theorem g_down {s s' : S} (h : s = s') : down J s = down J s' := by rw [h]
@[congr] theorem g_guardP (w : Bool) (yes no : Prop) {g g' : Option SV} (h : g = g') : guardP w yes no g = guardP w yes no g' := by rw [h]
@[congr] theorem g_pickP {a a' b b' : Option SV} (k : SV → Prop) {c c' : AV} (ha : a = a') (hb : b = b') (hc : c = c') : pickP a b k c = pickP a' b' k c' := by rw [ha, hb, hc]
@[congr] theorem g_condP (a b : Prop) {c c' : AV} (h : c = c') : condP a b c = condP a b c' := by rw [h]
@[congr] theorem g_ldP (sz : Option Nat) (bx : List (Nat × Box)) (k : SV → Prop) {v v' : SV} (h : v = v') : ldP sz bx k v = ldP sz bx k v' := by rw [h]
@[congr] theorem g_faP (off : Nat) (k : SV → Prop) {v v' : SV} (h : v = v') : faP off k v = faP off k v' := by rw [h]
@[congr] theorem g_iaP {d d' : Nat} (k : SV → Prop) {v v' : SV} (h : v = v') (hd : d = d') : iaP d k v = iaP d' k v' := by rw [h, hd]
@[congr] theorem g_stP (sz : Nat) (bx : List (Nat × Box)) {u u' : Option SV} (k : List (Nat × Box) → Prop) {v v' : SV} (hu : u = u') (h : v = v') : stP sz bx u k v = stP sz bx u' k v' := by rw [h, hu]
@[congr] theorem g_stV (sz off : Nat) (x : Box) (k : Box → Prop) {v v' : SV} (h : v = v') : stV sz off x k v = stV sz off x k v' := by rw [h]
@[congr] theorem g_aggP (k : List AV → Prop) {v v' : AV} (h : v = v') : aggP k v = aggP k v' := by rw [h]
@[congr] theorem g_mmP (m : Bool) (k : AV → Prop) {v v' : List AV} (h : v = v') : mmP m k v = mmP m k v' := by rw [h]
@[congr] theorem g_ncP (k : SV → Prop) {v v' : SV} (h : v = v') : ncP k v = ncP k v' := by rw [h]
end
section
variable (k : IntKind) (x y : Int)
theorem b_add : binA .add (.int k x) (.int k y) = some (.int k (k.wrap (x + y))) := by simp [binA, intA]
theorem b_sub : binA .sub (.int k x) (.int k y) = some (.int k (k.wrap (x - y))) := by simp [binA, intA]
theorem b_mul : binA .mul (.int k x) (.int k y) = some (.int k (k.wrap (x * y))) := by simp [binA, intA]
theorem b_eql : binA .eql (.int k x) (.int k y) = some (.bool (x == y)) := by simp [binA, intA]
theorem b_neq : binA .neq (.int k x) (.int k y) = some (.bool (x != y)) := by simp [binA, intA]
theorem b_lss : binA .lss (.int k x) (.int k y) = some (.bool (decide (x < y))) := by simp [binA, intA]
theorem b_leq : binA .leq (.int k x) (.int k y) = some (.bool (decide (x ≤ y))) := by simp [binA, intA]
theorem b_gtr : binA .gtr (.int k x) (.int k y) = some (.bool (decide (y < x))) := by simp [binA, intA]
theorem b_geq : binA .geq (.int k x) (.int k y) = some (.bool (decide (y ≤ x))) := by simp [binA, intA]
def bAnd (k : IntKind) (x y : Int) : Int := k.wrap (BitVec.ofInt k.bits x &&& BitVec.ofInt k.bits y).toNat
def bOr (k : IntKind) (x y : Int) : Int := k.wrap (BitVec.ofInt k.bits x ||| BitVec.ofInt k.bits y).toNat
def bXor (k : IntKind) (x y : Int) : Int := k.wrap (BitVec.ofInt k.bits x ^^^ BitVec.ofInt k.bits y).toNat
def bAndNot (k : IntKind) (x y : Int) : Int := k.wrap (BitVec.ofInt k.bits x &&& ~~~BitVec.ofInt k.bits y).toNat
theorem b_and : binA .and (.int k x) (.int k y) = some (.int k (bAnd k x y)) := by simp [binA, intA, bitsA, bAnd]
theorem b_or : binA .or (.int k x) (.int k y) = some (.int k (bOr k x y)) := by simp [binA, intA, bitsA, bOr]
theorem b_xor : binA .xor (.int k x) (.int k y) = some (.int k (bXor k x y)) := by simp [binA, intA, bitsA, bXor]
theorem b_andNot : binA .andNot (.int k x) (.int k y) = some (.int k (bAndNot k x y)) := by simp [binA, intA, bitsA, bAndNot]
def optIf (c : Prop) [Decidable c] (v : AV) : Option AV := if c then some v else none
theorem w_optIf (c : Prop) [Decidable c] (v : AV) (K : AV → Prop) : @wv _ (optIf c v) ⟨K⟩ = (c ∧ K v) := by
  rw [← k_wv]; unfold optIf; split <;> simp_all
theorem b_quo : binA .quo (.int k x) (.int k y) = optIf (y ≠ 0) (.int k (k.wrap (x.tdiv y))) := by
  by_cases h : y = 0 <;> simp [binA, intA, optIf, h]
theorem b_rem : binA .rem (.int k x) (.int k y) = optIf (y ≠ 0) (.int k (x.tmod y)) := by
  by_cases h : y = 0 <;> simp [binA, intA, optIf, h]
theorem b_shl (k' : IntKind) : binA .shl (.int k x) (.int k' y) = optIf (0 ≤ y) (.int k (k.wrap (x * 2 ^ min y.toNat k.bits))) := by
  by_cases h : 0 ≤ y
  · have : ¬ y < 0 := by omega
    simp [binA, shiftA, optIf, h, this]
  · have : y < 0 := by omega
    simp [binA, shiftA, optIf, this]
theorem b_shr (k' : IntKind) : binA .shr (.int k x) (.int k' y) = optIf (0 ≤ y) (.int k (x.fdiv (2 ^ min y.toNat k.bits))) := by
  by_cases h : 0 ≤ y
  · have : ¬ y < 0 := by omega
    simp [binA, shiftA, optIf, h, this]
  · have : y < 0 := by omega
    simp [binA, shiftA, optIf, this]
theorem b_beq (x y : Bool) : bbA false (.bool x) (.bool y) = some (.bool (x == y)) := rfl
theorem b_bne (x y : Bool) : bbA true (.bool x) (.bool y) = some (.bool (x != y)) := rfl
theorem u_not (b : Bool) : unA .not (.bool b) = some (.bool !b) := rfl
theorem u_neg : unA .neg (.int k x) = some (.int k (k.wrap (0 - x))) := rfl
theorem l_in0 : nilA false .nils = some true := rfl
theorem l_in1 : nilA true .nils = some false := rfl
theorem l_in2 (xs : List (List AV)) : nilA false (.sl xs) = some false := rfl
theorem l_in3 (xs : List (List AV)) : nilA true (.sl xs) = some true := rfl
theorem l_nil : lenA .nils = some (.int .i64 0) := rfl
theorem l_sl (xs : List (List AV)) : lenA (.sl xs) = some (.int .i64 xs.length) := rfl
theorem c_ii (k' : IntKind) : cvIIA k (.int k' x) = some (.int k (k.wrap x)) := rfl
theorem c_if (k' : IntKind) (f : FloatKind) : cvIFA f (.int k' x) = some (.float f (f.nearest x)) := rfl
theorem e_tup (vs : List AV) (i : Nat) : extA (.tup vs) i = vs[i]? := rfl
theorem s_ok1 (cs : List AV) : stOk (.agg cs) none = true := rfl
theorem s_ok2 (q : Option Nat) : stOk (.int k x) q = true := rfl
theorem s_ok3 (b : Bool) (q : Option Nat) : stOk (.bool b) q = true := rfl
theorem s_ok4 (f : FloatKind) (n : Nat) (q : Option Nat) : stOk (.float f n) q = true := rfl
theorem s_ok5 (q : Option Nat) : stOk .nils q = true := rfl
theorem s_ok6 (xs : List (List AV)) (q : Option Nat) : stOk (.sl xs) q = true := rfl
theorem s_ok7 (b : ByteArray) (q : Option Nat) : stOk (.str b) q = true := rfl
theorem s_ok8 (f : Fn) (as bs : List AV) (q : Option Nat) : stOk (.fn f as bs) q = true := rfl
theorem s_ok10 (cs : List AV) (q : Option Nat) : stOk (.ref cs) q = true := rfl
theorem s_ok9 (q : Option Nat) : stOk .nilfn q = true := rfl
theorem cells_agg (cs : List AV) : AV.cells (.agg cs) = cs := rfl
theorem cells_int : AV.cells (.int k x) = [.int k x] := rfl
theorem cells_bool (b : Bool) : AV.cells (.bool b) = [.bool b] := rfl
theorem cells_float (f : FloatKind) (n : Nat) : AV.cells (.float f n) = [.float f n] := rfl
theorem cells_nils : AV.cells .nils = [.nils] := rfl
theorem cells_ref (cs : List AV) : AV.cells (.ref cs) = [.ref cs] := rfl
theorem cells_fn (f : Fn) (as bs : List AV) : AV.cells (.fn f as bs) = [.fn f as bs] := rfl
theorem cells_sl (xs : List (List AV)) : AV.cells (.sl xs) = [.sl xs] := rfl
theorem p_none (cs : List AV) (off : Nat) : partA cs off none = cs[off]? := rfl
theorem p_some (cs : List AV) (off n : Nat) (h : off + n ≤ cs.length) : partA cs off (some n) = some (.agg ((cs.drop off).take n)) := by simp [partA, h]
end
theorem cd_split {a b : Prop} {t : Bool} (h1 : t = true → a) (h2 : t = false → b) : @cd (.bool t) ⟨a, b⟩ := by
  cases t
  · simpa [cd, condP] using h2 rfl
  · simpa [cd, condP] using h1 rfl
theorem r_putPs (p : Nat) (ps : List Nat) (x : AV) (xs : List AV) (s : S) : putPs (p :: ps) (x :: xs) s = putPs ps xs (s.put (some p) (.dat x none)) := rfl
theorem r_putPs0 (s : S) : putPs [] [] s = s := rfl
theorem r_cutS (wr : List Nat) (sl : List (Nat × SV)) (bx : List (Nat × Box)) (lv : List (Nat × Nat)) (nx : Nat) : cutS wr ⟨sl, bx, lv, nx⟩ = ⟨cutL wr sl, bx, lv, nx⟩ := rfl
theorem r_cutL0 (wr : List Nat) : cutL wr [] = [] := rfl
theorem r_cutL (wr : List Nat) (t : Nat) (v : SV) (r : List (Nat × SV)) : cutL wr ((t, v) :: r) = bif wr.contains t then cutL wr r else (t, v) :: cutL wr r := rfl
theorem r_rfQn (wr : List Nat) (F : S → Prop) (Q : Exit → S → Prop) (s : S) : rfQ wr F Q .normal s = down F (cutS wr s) := rfl
theorem r_rfQr (wr : List Nat) (F : S → Prop) (Q : Exit → S → Prop) (s : S) : rfQ wr F Q .ret s = Q .ret (cutS wr s) := rfl
theorem r_rfQx (wr : List Nat) (F : S → Prop) (Q : Exit → S → Prop) (id : Nat) (s : S) : rfQ wr F Q (.exit id) s = Q (.exit id) (cutS wr s) := rfl
theorem r_onlyN (K : S → Prop) (s : S) : onlyN K .normal s = K s := rfl
set_option linter.defProp false
def EV0 :=
  And.intro @w_some (And.intro @w_none (And.intro @r_lk (And.intro @r_lkB (And.intro @r_lkN (And.intro @r_lkN0 (And.intro @r_setB (And.intro @r_delN (And.intro @r_delN0 (And.intro @r_put (And.intro @r_put0 (And.intro @r_opdt (And.intro @r_opdk (And.intro @r_datAr (And.intro @r_datA (And.intro @r_opdAt (And.intro @r_opdAk (And.intro @r_consO (And.intro @r_opdsA (And.intro @r_opdsA0 (And.intro @r_aops0 (And.intro @r_aops (And.intro @r_aopsg (And.intro @r_guardu (And.intro @r_guardt (And.intro @r_guardt' (And.intro @r_guardf (And.intro @r_guardf' (And.intro @r_mv (@r_pick)))))))))))))))))))))))))))))
def EV1 :=
  And.intro @r_pickt (And.intro @r_pickf (And.intro @r_alloc (And.intro @r_box (And.intro @r_ld (And.intro @r_ldp1 (And.intro @r_ldp2 (And.intro @r_ldr (And.intro @r_st (And.intro @r_stp (And.intro @r_stv (And.intro @r_tags0 (And.intro @r_tags1 (And.intro @r_fa (And.intro @r_fap (And.intro @r_far (And.intro @r_iaA (And.intro @r_iap (And.intro @r_iar (And.intro @r_idx (And.intro @r_iaS (And.intro @r_rows (And.intro @r_rows0 (And.intro @r_agg (And.intro @r_fld (And.intro @r_ixA (And.intro @r_bin (And.intro @r_eqc (And.intro @r_bb (@r_un)))))))))))))))))))))))))))))
def EV2 :=
  And.intro @r_cvII (And.intro @r_cvIF (And.intro @r_cvFI (And.intro @r_lenS (And.intro @r_xt (And.intro @r_xb (And.intro @r_xf (And.intro @r_xr (And.intro @r_slA (And.intro @r_slA1 (And.intro @r_slA2 (And.intro @r_ixB (And.intro @r_ixBs (And.intro @r_lenK (And.intro @r_call (And.intro @r_consPd (And.intro @r_consPr (And.intro @r_consPp (And.intro @r_svs0 (And.intro @r_svs (And.intro @r_cells0 (And.intro @r_consC (And.intro @r_cells (And.intro @r_nodup0 (And.intro @r_nodup (And.intro @r_setBs (And.intro @r_setBs0 (And.intro @r_callpK (And.intro @r_callp (@r_callv)))))))))))))))))))))))))))))
def EV3 :=
  And.intro @r_callvf (And.intro @r_callvp (And.intro @r_callvpf (And.intro @r_isn (And.intro @r_ext (And.intro @r_frz1 (And.intro @r_frz2 (And.intro @r_frz3 (And.intro @r_frz4 (And.intro @r_frzL0 (And.intro @r_frzL (And.intro @r_delB0 (And.intro @r_delB (And.intro @r_frzs0 (And.intro @r_frzs (And.intro @r_fillP0 (And.intro @r_fillPs (And.intro @r_fillPn (And.intro @r_own0 (And.intro @r_own (And.intro @r_mkfK (And.intro @r_mkf (And.intro @r_mm (And.intro @r_mm2 (And.intro @r_mmI (And.intro @r_mmI' (And.intro @r_build (And.intro @r_partsA (And.intro @r_partsA0 (@r_bsl)))))))))))))))))))))))))))))
def EV4 :=
  And.intro @r_rowsA (And.intro @r_rowsA0 (And.intro @r_app (And.intro @r_slS (And.intro @r_bndL0 (And.intro @r_bndL (And.intro @r_bndH0 (And.intro @r_bndH (And.intro @r_idxO (And.intro @r_cut (And.intro @r_cut0 (And.intro @r_nc (And.intro @r_ncp (And.intro @r_ncr (And.intro @r_skip (And.intro @r_reg (And.intro @r_regD (And.intro @r_bump (And.intro @r_seq (And.intro @r_join (And.intro @r_cond (And.intro @r_condt (And.intro @r_condf (And.intro @r_block (And.intro @r_exit (And.intro @r_ret (And.intro @r_scope (And.intro @r_label (And.intro @r_goto (@r_then4)))))))))))))))))))))))))))))
def EV5 :=
  And.intro @r_blk5 (And.intro @r_sc1 (And.intro @r_sc2 (And.intro @r_sc3 (And.intro @r_sc4 (And.intro @r_ng1 (And.intro @r_ng2 (And.intro @r_ng3 (And.intro @r_then1 (And.intro @r_then2 (And.intro @r_then3 (And.intro @r_blk1 (And.intro @r_blk2 (And.intro @r_blk3 (And.intro @b_add (And.intro @b_sub (And.intro @b_mul (And.intro @b_eql (And.intro @b_neq (And.intro @b_lss (And.intro @b_leq (And.intro @b_gtr (And.intro @b_geq (And.intro @b_and (And.intro @b_or (And.intro @b_xor (And.intro @b_andNot (And.intro @w_optIf (And.intro @b_quo (@b_rem)))))))))))))))))))))))))))))
def EV6 :=
  And.intro @b_shl (And.intro @b_shr (And.intro @b_beq (And.intro @b_bne (And.intro @u_not (And.intro @u_neg (And.intro @l_in0 (And.intro @l_in1 (And.intro @l_in2 (And.intro @l_in3 (And.intro @l_nil (And.intro @l_sl (And.intro @c_ii (And.intro @c_if (And.intro @e_tup (And.intro @s_ok1 (And.intro @s_ok2 (And.intro @s_ok3 (And.intro @s_ok4 (And.intro @s_ok5 (And.intro @s_ok6 (And.intro @s_ok7 (And.intro @s_ok8 (And.intro @s_ok10 (And.intro @s_ok9 (And.intro @cells_agg (And.intro @cells_int (And.intro @cells_bool (And.intro @cells_float (@cells_nils)))))))))))))))))))))))))))))
def EV7 :=
  And.intro @cells_ref (And.intro @cells_fn (And.intro @cells_sl (And.intro @p_none (And.intro @r_putPs (And.intro @r_putPs0 (And.intro @r_cutS (And.intro @r_cutL0 (And.intro @r_cutL (And.intro @r_rfQn (And.intro @r_rfQr (And.intro @r_rfQx (@r_onlyN))))))))))))
def EV :=
  And.intro @EV0 (And.intro @EV1 (And.intro @EV2 (And.intro @EV3 (And.intro @EV4 (And.intro @EV5 (And.intro @EV6 (@EV7)))))))
end Go.Eng
namespace Go.Eng
set_option linter.unusedVariables false
set_option linter.unusedSimpArgs false
set_option linter.unnecessarySimpa false
open Go
set_option linter.unusedVariables false
set_option linter.unusedSimpArgs false
section
variable {C : Con}
theorem aops_mono {base : Nat} : ∀ {l : List CO} {i : Nat} {s : S} {K K' : S → Prop}, (∀ s, K s → K' s) → aops C base i l K s → aops C base i l K' s
  | [], i, s, K, K', hk, h => hk s h
  | o :: l, i, s, K, K', hk, h => by
    rw [aops_cons] at h ⊢
    obtain ⟨v, d, hd, hk', _⟩ := astep_path h
    exact hd.2 s .refl _ (aops_mono hk hk')
theorem down_mono {F G : S → Prop} (h : ∀ s, F s → G s) {s : S} (hd : down F s) : down G s := by
  obtain ⟨s1, ⟨hl, hF⟩ | hF⟩ := hd
  · exact ⟨s1, .inl ⟨hl, h _ hF⟩⟩
  · exact ⟨s1, .inr (h _ hF)⟩
theorem athen_mono {F G : S → Prop} {Q Q' : Exit → S → Prop} (h : ∀ s, F s → G s) (hq : ∀ e s, Q e s → Q' e s) {e : Exit} {s : S} (ha : athen F Q e s) : athen G Q' e s := by
  cases e <;> first | exact h _ ha | exact hq _ _ ha
theorem ablock_mono {id : Nat} {Q Q' : Exit → S → Prop} (hq : ∀ e s, Q e s → Q' e s) {e : Exit} {s : S} (ha : ablock id Q e s) : ablock id Q' e s := by
  cases e with
  | exit i =>
    simp only [ablock] at ha ⊢
    split
    · rename_i hi; rw [if_pos hi] at ha; exact hq _ _ ha
    · rename_i hi; rw [if_neg hi] at ha; exact hq _ _ ha
  | _ => exact hq _ _ ha
theorem ARounds_mono {F G : (Exit → S → Prop) → S → Prop} (hF : ∀ Q Q' s, (∀ e s, Q e s → Q' e s) → F Q s → G Q' s) {Q Q' : Exit → S → Prop} (hq : ∀ e s, Q e s → Q' e s) : ∀ {n : Nat} {s : S}, ARounds F Q n s → ARounds G Q' n s
  | 0, s, h => h
  | n + 1, s, h => hF _ _ s (fun e s ha => athen_mono (fun s hd => down_mono (fun s h => ARounds_mono hF hq h) hd) hq ha) h
theorem rfQ_mono {wr : List Nat} {F : S → Prop} {Q Q' : Exit → S → Prop} (hq : ∀ e s, Q e s → Q' e s) {e : Exit} {s : S} (h : rfQ wr F Q e s) : rfQ wr F Q' e s := by
  cases e <;> first | exact h | exact hq _ _ h
theorem aw_mono : ∀ {c : CCode} {Q Q' : Exit → S → Prop} {s : S}, (∀ e s, Q e s → Q' e s) → aw C c Q s → aw C c Q' s := by
  intro c
  induction c with
  | skip => intro Q Q' s hq h; exact hq _ _ h
  | reg ops => intro Q Q' s hq h; exact aops_mono (fun s h => hq _ _ h) h
  | regD ops bad => intro Q Q' s hq h; exact ⟨h.1, aops_mono (fun s h => hq _ _ h) h.2⟩
  | seq a b iha ihb => intro Q Q' s hq h; exact iha (fun e s ha => athen_mono (fun s h => ihb hq h) hq ha) h
  | join a b iha ihb => intro Q Q' s hq h; exact iha (fun e s ha => athen_mono (fun s h => down_mono (fun s h => ihb hq h) h) hq ha) h
  | cond c a b iha ihb =>
    intro Q Q' s hq h
    simp only [aw] at h ⊢
    obtain ⟨v, hv, h⟩ := withV_inv h
    rw [hv]
    cases v <;> try (exact h.elim)
    exact ⟨fun e => iha hq (h.1 e), fun e => ihb hq (h.2 e)⟩
  | block id c ih => intro Q Q' s hq h; exact ih (fun e s ha => ablock_mono hq ha) h
  | loop c ih =>
    intro Q Q' s hq h
    exact down_mono (fun s ⟨n, h⟩ => ⟨n, ARounds_mono (F := aw C c) (G := aw C c) (fun Q Q' s hq h => ih hq h) hq h⟩) h
  | exit id => intro Q Q' s hq h; exact hq _ _ h
  | ret => intro Q Q' s hq h; exact hq _ _ h
  | label l => intro Q Q' s hq h; exact hq _ _ h
  | goto l => intro Q Q' s hq h; exact hq _ _ h
  | scope l c r ihc ihr =>
    intro Q Q' s hq h
    refine ihc (fun e s ha => ?_) h
    cases e with
    | goto l' =>
      refine ⟨ha.1, ihr (fun e s hb => ?_) ha.2⟩
      cases e <;> first | exact hb | exact hq _ _ hb
    | _ => exact hq _ _ ha
  | rfor g ps wr as bd iha ihb =>
    intro Q Q' s hq h
    simp only [aw] at h ⊢
    obtain ⟨gv, hgv, xs, h1, h2, F, h3, h4, h5, h6⟩ := withV_inv h
    rw [hgv]
    refine ⟨xs, h1, h2, F, h3, h4, fun i x s' hx hs => iha (fun e s ha => ?_) (h5 i x s' hx hs), fun s' hs => hq _ _ (h6 s' hs)⟩
    cases e <;> first | exact ha.elim | exact ihb (fun e s hb => rfQ_mono hq hb) ha
def flat (keep : List Nat) : Nat → CCode → CCode × Nat
  | i, .join a b =>
    let p := flat keep (i + 1) a
    let q := flat keep p.2 b
    (if keep.contains i then .join p.1 q.1 else .seq p.1 q.1, q.2)
  | i, .seq a b =>
    let p := flat keep i a
    let q := flat keep p.2 b
    (.seq p.1 q.1, q.2)
  | i, .cond c a b =>
    let p := flat keep i a
    let q := flat keep p.2 b
    (.cond c p.1 q.1, q.2)
  | i, .block id c => (.block id (flat keep i c).1, (flat keep i c).2)
  | i, .rfor g ps wr as bd =>
    let p := flat keep i as
    let q := flat keep p.2 bd
    (.rfor g ps wr p.1 q.1, q.2)
  | i, .loop c => (.loop (flat keep i c).1, (flat keep i c).2)
  | i, .scope l c r =>
    let p := flat keep i c
    let q := flat keep p.2 r
    (.scope l p.1 q.1, q.2)
  | i, c => (c, i)
theorem aw_flat {keep : List Nat} : ∀ {c : CCode} {i : Nat} {Q : Exit → S → Prop} {s : S}, aw C (flat keep i c).1 Q s → aw C c Q s := by
  intro c
  induction c with
  | join a b iha ihb =>
    intro i Q s h
    simp only [flat] at h
    split at h
    · exact iha (aw_mono (fun e s ha => athen_mono (fun s h => down_mono (fun s h => ihb h) h) (fun _ _ h => h) ha) h)
    · exact iha (aw_mono (fun e s ha => athen_mono (fun s h => down_refl (ihb h)) (fun _ _ h => h) ha) h)
  | seq a b iha ihb => intro i Q s h; exact iha (aw_mono (fun e s ha => athen_mono (fun s h => ihb h) (fun _ _ h => h) ha) h)
  | cond c a b iha ihb =>
    intro i Q s h
    simp only [flat, aw] at h ⊢
    obtain ⟨v, hv, h⟩ := withV_inv h
    rw [hv]
    cases v <;> try (exact h.elim)
    exact ⟨fun e => iha (h.1 e), fun e => ihb (h.2 e)⟩
  | block id c ih => intro i Q s h; exact ih h
  | scope l c r ihc ihr =>
    intro i Q s h
    refine ihc (aw_mono (fun e s ha => ?_) h)
    cases e with
    | goto l' => exact ⟨ha.1, ihr ha.2⟩
    | _ => exact ha
  | rfor g ps wr as bd iha ihb =>
    intro i Q s h
    simp only [flat, aw] at h ⊢
    obtain ⟨gv, hgv, xs, h1, h2, F, h3, h4, h5, h6⟩ := withV_inv h
    rw [hgv]
    refine ⟨xs, h1, h2, F, h3, h4, fun i x s' hx hs => iha (aw_mono (fun e s ha => ?_) (h5 i x s' hx hs)), h6⟩
    cases e <;> first | exact ha.elim | exact ihb ha
  | loop c ih =>
    intro i Q s h
    exact down_mono (fun s ⟨n, h⟩ => ⟨n, ARounds_mono (F := aw C (flat keep i c).1) (G := aw C c) (fun Q Q' s hq h => aw_mono hq (ih h)) (fun _ _ h => h) h⟩) h
  | _ => intro i Q s h; exact h
theorem aw_loop {c : CCode} {Q : Exit → S → Prop} {α : Type} (hd : α → S) (μ : α → Nat) (I : α → Prop)
    (round : ∀ x, I x → aw C c (athen (down fun s => ∃ y, s = hd y ∧ I y ∧ μ y < μ x) Q) (hd x)) {x : α} (hx : I x) {s : S} (h0 : Le s (hd x) ∨ s = hd x) : aw C (.loop c) Q s := by
  have key : ∀ n x, I x → μ x < n → ARounds (aw C c) Q n (hd x) := by
    intro n
    induction n with
    | zero => intro x _ h; omega
    | succ n ih =>
      intro x hx hn
      refine aw_mono ?_ (round x hx)
      intro e s ha
      refine athen_mono ?_ (fun _ _ h => h) ha
      intro s hd
      refine down_mono ?_ hd
      rintro s ⟨y, rfl, hy, hlt⟩
      exact ih y hy (by omega)
  rcases h0 with h0 | rfl
  · exact ⟨hd x, .inl ⟨h0, μ x + 1, key _ x hx (by omega)⟩⟩
  · exact down_refl ⟨μ x + 1, key _ x hx (by omega)⟩
end
theorem a_int (k : IntKind) (n : Int) : argSV (.int k n) = .dat (.int k n) none := rfl
theorem a_bool (b : Bool) : argSV (.bool b) = .dat (.bool b) none := rfl
theorem a_float (k : FloatKind) (n : Nat) : argSV (.float k n) = .dat (.float k n) none := rfl
theorem a_str (s : ByteArray) : argSV (.str s) = .dat (.str s) none := rfl
theorem a_nilp : argSV .nilp = .dat .nilp none := rfl
theorem a_nils : argSV .nils = .dat .nils none := rfl
theorem a_sl (xs : List (List AV)) : argSV (.sl xs) = .dat (.sl xs) none := rfl
theorem a_fn (f : Fn) (as bs : List AV) : argSV (.fn f as bs) = .dat (.fn f as bs) none := rfl
theorem a_agg (cs : List AV) : argSV (.agg cs) = .dat (.agg cs) none := rfl
theorem a_ref (cs : List AV) : argSV (.ref cs) = .rp cs := rfl
theorem a_slots (i : Nat) (a : AV) (r : List AV) : slotsOf i (a :: r) = (i, argSV a) :: slotsOf (i + 1) r := rfl
theorem a_slots0 (i : Nat) : slotsOf i [] = [] := rfl
theorem a_init (as : List AV) : initS as = ⟨slotsOf 0 as, [], [], 4⟩ := rfl
theorem a_slotsBv (i k : Nat) (a : AV) (r : List (Option AV)) : slotsB i k (some a :: r) = (i, argSV a) :: slotsB (i + 1) k r := rfl
theorem a_slotsBp (i k : Nat) (r : List (Option AV)) : slotsB i k (none :: r) = (i, .ptr k 0) :: slotsB (i + 1) (k + 1) r := rfl
theorem a_slotsB0 (i k : Nat) : slotsB i k [] = [] := rfl
theorem a_boxesB (k : Nat) (cs : List AV) (css : List (List AV)) : boxesB k (cs :: css) = (k, ⟨cs, []⟩) :: boxesB (k + 1) css := rfl
theorem a_boxesB0 (k : Nat) : boxesB k [] = [] := rfl
theorem a_initB (css : List (List AV)) (as : List (Option AV)) : initB css as = ⟨slotsB 0 0 as, boxesB 0 css, [], 4⟩ := rfl
theorem a_fin1 (res : List CRes) (r : AV) (s : S) : fin res r none .normal s = withV (resultA s res) fun p => p.1 = r := by simp [fin, frA]
theorem a_fin2 (res : List CRes) (r : AV) (s : S) : fin res r none .ret s = withV (resultA s res) fun p => p.1 = r := by simp [fin, frA]
theorem a_fin3 (res : List CRes) (r : AV) (e : Nat) (s : S) : fin res r (some e) .normal s = withV (resultA s res) fun p => p.1 = r ∧ frA (some e) p.2 s.live := rfl
theorem a_fin4 (res : List CRes) (r : AV) (e : Nat) (s : S) : fin res r (some e) .ret s = withV (resultA s res) fun p => p.1 = r ∧ frA (some e) p.2 s.live := rfl
theorem a_fr (e q : Nat) (lv : List (Nat × Nat)) : frA (some e) (some q) lv = (lkN q lv = some e) := rfl
theorem a_finB1 (res : List CRes) (r : AV) (css : List (List AV)) (s : S) : finB res r none css .normal s = withV (resultA s res) fun p => p.1 = r ∧ holdB s.boxes 0 css := by simp [finB, frA]
theorem a_finB2 (res : List CRes) (r : AV) (css : List (List AV)) (s : S) : finB res r none css .ret s = withV (resultA s res) fun p => p.1 = r ∧ holdB s.boxes 0 css := by simp [finB, frA]
theorem a_hold0 (l : List (Nat × Box)) (k : Nat) : holdB l k [] = True := rfl
theorem a_hold (l : List (Nat × Box)) (k : Nat) (cs : List AV) (css : List (List AV)) : holdB l k (cs :: css) = (withV (lkB k l) (fun x => x.cells = cs) ∧ holdB l (k + 1) css) := rfl
def tmpR : Option SV → Option (AV × Option Nat)
  | some (.dat a q) => some (a, q)
  | _ => none
theorem a_tmpR (a : AV) (q : Option Nat) : tmpR (some (.dat a q)) = some (a, q) := rfl
theorem a_res1 (s : S) (t : Nat) : resultA s [.tmp t] = tmpR (lk t s.slots) := rfl
def cellR (sz : Option Nat) (bx : List (Nat × Box)) : Option SV → Option (AV × Option Nat)
  | some (.ptr b off) => match lkB b bx with
    | some x => match partA x.cells off sz with
      | some a => some (a, match sz with | none => lkN off x.tags | some _ => none)
      | none => none
    | none => none
  | _ => none
def boxR1 (off : Nat) (sz : Option Nat) : Option Box → Option (AV × Option Nat)
  | some x => match partA x.cells off sz with
    | some a => some (a, match sz with | none => lkN off x.tags | some _ => none)
    | none => none
  | none => none
theorem a_res2 (s : S) (t : Nat) (sz : Option Nat) : resultA s [.cell t sz] = cellR sz s.boxes (lk t s.slots) := rfl
theorem a_cellR (sz : Option Nat) (bx : List (Nat × Box)) (b off : Nat) : cellR sz bx (some (.ptr b off)) = boxR1 off sz (lkB b bx) := by
  simp only [cellR, boxR1]
theorem a_boxR1 (off n : Nat) (x : Box) : boxR1 off (some n) (some x) = (partA x.cells off (some n)).map fun a => (a, none) := by
  simp only [boxR1] <;> cases partA x.cells off (some n) <;> rfl
theorem a_boxR2 (off : Nat) (x : Box) : boxR1 off none (some x) = (x.cells[off]?).map fun a => (a, lkN off x.tags) := by
  simp only [boxR1, partA] <;> cases x.cells[off]? <;> rfl
theorem a_res0 (s : S) : resultA s [] = some (.tup [], none) := rfl
theorem a_resM (s : S) (x y : CRes) (r : List CRes) : resultA s (x :: y :: r) = (ressA s (x :: y :: r)).map fun as => (.tup as, none) := rfl
def consR : Option (AV × Option Nat) → Option (List AV) → Option (List AV)
  | some p, some as => some (p.1 :: as)
  | _, _ => none
theorem a_consR (a : AV) (q : Option Nat) (as : List AV) : consR (some (a, q)) (some as) = some (a :: as) := rfl
theorem a_ress (s : S) (x : CRes) (r : List CRes) : ressA s (x :: r) = consR (resultA s [x]) (ressA s r) := by
  simp only [ressA, consR, resultA] <;> cases resA s x <;> cases ressA s r <;> rfl
theorem a_ress0 (s : S) : ressA s [] = some [] := rfl
set_option linter.defProp false
def EW0 :=
  And.intro @a_int (And.intro @a_bool (And.intro @a_float (And.intro @a_str (And.intro @a_nilp (And.intro @a_nils (And.intro @a_sl (And.intro @a_fn (And.intro @a_agg (And.intro @a_ref (And.intro @a_slots (And.intro @a_slots0 (And.intro @a_init (And.intro @a_slotsBv (And.intro @a_slotsBp (And.intro @a_slotsB0 (And.intro @a_boxesB (And.intro @a_boxesB0 (And.intro @a_initB (And.intro @a_fin1 (And.intro @a_fin2 (And.intro @a_fin3 (And.intro @a_fin4 (And.intro @a_fr (And.intro @a_finB1 (And.intro @a_finB2 (And.intro @a_hold0 (And.intro @a_hold (And.intro @a_tmpR (@a_res1)))))))))))))))))))))))))))))
def EW1 :=
  And.intro @a_res2 (And.intro @a_cellR (And.intro @a_boxR1 (And.intro @a_boxR2 (And.intro @a_res0 (And.intro @a_resM (And.intro @a_consR (And.intro @a_ress (@a_ress0))))))))
def EW :=
  And.intro @EW0 (@EW1)
end Go.Eng
namespace Go.Eng
set_option linter.unusedVariables false
set_option linter.unusedSimpArgs false
set_option linter.unnecessarySimpa false
open Go
set_option linter.unusedVariables false
set_option linter.unusedSimpArgs false
abbrev I (n : Int) : AV := .int .i64 n
abbrev B (b : Bool) : AV := .bool b
abbrev D (n : Nat) : AV := .float .f64 n
def w64 (n : Int) : Int := IntKind.i64.wrap n
def slAV {α : Type} (f : α → List AV) : Option (List α) → AV
  | none => .nils
  | some l => .sl (l.map f)
def intRow (n : Int) : List AV := [I n]
structure Ph where
  on : Bool
  min : Int
  gap : Int
  max : Int
  top : Int
  step : Int
  yellow : Int
  red : Int
  walk : Int
  blinks : Int
  recall : Int
  lock : Bool
  rest : Bool
  deriving Inhabited, DecidableEq
def Ph.cells (p : Ph) : List AV := [B p.on, I p.min, I p.gap, I p.max, I p.top, I p.step, I p.yellow, I p.red, I p.walk, I p.blinks, I p.recall, B p.lock, B p.rest]
structure Det where
  phase : Int
  on : Nat
  off : Nat
  delay : Nat
  extend : Nat
  maxOn : Int
  maxOff : Int
  deriving Inhabited, DecidableEq
def Det.cells (d : Det) : List AV := [I d.phase, D d.on, D d.off, D d.delay, D d.extend, I d.maxOn, I d.maxOff]
structure Rl where
  bars : Int
  clear : Int
  dwell : Int
  exit : Int
  delay : Int
  green : Int
  foot : Int
  hold : Int
  stay : Int
  most : Int
  limit : Int
  deriving Inhabited, DecidableEq
def Rl.cells (r : Rl) : List AV := [I r.bars, I r.clear, I r.dwell, I r.exit, I r.delay, I r.green, I r.foot, I r.hold, I r.stay, I r.most, I r.limit]
structure Bs where
  set : Int
  lock : Int
  deriving Inhabited, DecidableEq
def Bs.cells (b : Bs) : List AV := [I b.set, I b.lock]
structure Gr where
  a : Option (List Int)
  b : Option (List Int)
  deriving Inhabited, DecidableEq
def Gr.cells (g : Gr) : List AV := [slAV intRow g.a, slAV intRow g.b]
structure Tb where
  phases : List Ph
  groups : Option (List Gr)
  conflict : List Int
  detectors : Option (List Det)
  rails : Option (List Rl)
  buses : Option (List Bs)
  extend : Int
  budget : Int
  start : Int
  revert : Int
  least : Int
  flash : List Int
  window : Int
  share : Int
  deriving Inhabited, DecidableEq
def Tb.cells (t : Tb) : List AV :=
  t.phases.flatMap Ph.cells ++ (slAV Gr.cells t.groups :: (t.conflict.map I ++ (slAV Det.cells t.detectors :: slAV Rl.cells t.rails :: slAV Bs.cells t.buses ::
    I t.extend :: I t.budget :: I t.start :: I t.revert :: I t.least :: (t.flash.map I ++ [I t.window, I t.share]))))
structure Tb.Ok (t : Tb) : Prop where
  phases : t.phases.length = 8
  conflict : t.conflict.length = 8
  flash : t.flash.length = 8
  groups : (t.groups.getD []).length ≤ 1048576
  rows : ∀ g ∈ t.groups.getD [], (g.a.getD []).length ≤ 1048576 ∧ (g.b.getD []).length ≤ 1048576
  dets : (t.detectors.getD []).length ≤ 1048576
  rails : (t.rails.getD []).length ≤ 1048576
  buses : (t.buses.getD []).length ≤ 1048576
theorem flatMap_len {α : Type} {f : α → List AV} {z : Nat} (hf : ∀ x, (f x).length = z) : ∀ {l : List α}, (l.flatMap f).length = l.length * z
  | [] => by simp
  | x :: l => by simp [List.flatMap_cons, hf, flatMap_len hf (l := l), Nat.add_mul]; omega
theorem Ph.len (p : Ph) : p.cells.length = 13 := rfl
theorem Tb.len {t : Tb} (h : t.Ok) : t.cells.length = 131 := by
  simp [Tb.cells, flatMap_len Ph.len, h.phases, h.conflict, h.flash]
theorem set_all {cs ps : List AV} (h : cs.length = ps.length) : setCells cs 0 ps = ps := by
  simp only [setCells, List.take_zero, List.nil_append, Nat.zero_add, ← h, List.drop_length, List.append_nil]
end Go.Eng
namespace Go.Eng
set_option linter.unusedVariables false
set_option linter.unusedSimpArgs false
set_option linter.unnecessarySimpa false
open Go
set_option linter.unusedVariables false
set_option maxRecDepth 10000
def z131_45020 : List AV := [(.bool false), (.int .i64 0), (.int .i64 0), (.int .i64 0), (.int .i64 0), (.int .i64 0), (.int .i64 0), (.int .i64 0), (.int .i64 0), (.int .i64 0), (.int .i64 0), (.bool false), (.bool false), (.bool false), (.int .i64 0), (.int .i64 0), (.int .i64 0), (.int .i64 0), (.int .i64 0), (.int .i64 0), (.int .i64 0), (.int .i64 0), (.int .i64 0), (.int .i64 0), (.bool false), (.bool false), (.bool false), (.int .i64 0), (.int .i64 0), (.int .i64 0), (.int .i64 0), (.int .i64 0), (.int .i64 0), (.int .i64 0), (.int .i64 0), (.int .i64 0), (.int .i64 0), (.bool false), (.bool false), (.bool false), (.int .i64 0), (.int .i64 0), (.int .i64 0), (.int .i64 0), (.int .i64 0), (.int .i64 0), (.int .i64 0), (.int .i64 0), (.int .i64 0), (.int .i64 0), (.bool false), (.bool false), (.bool false), (.int .i64 0), (.int .i64 0), (.int .i64 0), (.int .i64 0), (.int .i64 0), (.int .i64 0), (.int .i64 0), (.int .i64 0), (.int .i64 0), (.int .i64 0), (.bool false), (.bool false), (.bool false), (.int .i64 0), (.int .i64 0), (.int .i64 0), (.int .i64 0), (.int .i64 0), (.int .i64 0), (.int .i64 0), (.int .i64 0), (.int .i64 0), (.int .i64 0), (.bool false), (.bool false), (.bool false), (.int .i64 0), (.int .i64 0), (.int .i64 0), (.int .i64 0), (.int .i64 0), (.int .i64 0), (.int .i64 0), (.int .i64 0), (.int .i64 0), (.int .i64 0), (.bool false), (.bool false), (.bool false), (.int .i64 0), (.int .i64 0), (.int .i64 0), (.int .i64 0), (.int .i64 0), (.int .i64 0), (.int .i64 0), (.int .i64 0), (.int .i64 0), (.int .i64 0), (.bool false), (.bool false), .nils, (.int .i64 0), (.int .i64 0), (.int .i64 0), (.int .i64 0), (.int .i64 0), (.int .i64 0), (.int .i64 0), (.int .i64 0), .nils, .nils, .nils, (.int .i64 0), (.int .i64 0), (.int .i64 0), (.int .i64 0), (.int .i64 0), (.int .i64 0), (.int .i64 0), (.int .i64 0), (.int .i64 0), (.int .i64 0), (.int .i64 0), (.int .i64 0), (.int .i64 0), (.int .i64 0), (.int .i64 0)]
end Go.Eng
namespace Go.Eng
set_option linter.unusedVariables false
set_option linter.unusedSimpArgs false
set_option linter.unnecessarySimpa false
open Go
set_option linter.unusedVariables false
set_option linter.unusedSimpArgs false
set_option maxRecDepth 10000
def place (v n : Int) : Int := if v.tmod n < 0 then w64 (v.tmod n + n) else v.tmod n
theorem a_slAV {α : Type} (f : α → List AV) (l : Option (List α)) : argSV (slAV f l) = .dat (slAV f l) none := by cases l <;> rfl
theorem a_rows {α : Type} (f : α → List AV) (l : Option (List α)) : rowsOf (slAV f l) = some ((l.getD []).map f) := by cases l <;> rfl
theorem a_len {α : Type} (f : α → List AV) (l : Option (List α)) : lenA (slAV f l) = some (.int .i64 (l.getD []).length) := by cases l <;> simp [lenA, slAV]
end Go.Eng
namespace Go.Eng
set_option linter.unusedVariables false
set_option linter.unusedSimpArgs false
set_option linter.unnecessarySimpa false
open Go
set_option linter.unusedVariables false
set_option linter.unusedSimpArgs false
set_option maxRecDepth 10000
structure Cs where
  car : Int
  foot : Int
  deriving Inhabited, DecidableEq
def Cs.cells (c : Cs) : List AV := [I c.car, I c.foot]
theorem Tb.whole {t : Tb} (ht : t.Ok) : partA t.cells 0 (some 131) = some (.agg t.cells) := by
  have hl := Tb.len ht
  rw [p_some _ _ _ (by omega), List.drop_zero, ← hl, List.take_length]
end Go.Eng
namespace Go.Eng
set_option linter.unusedVariables false
set_option linter.unusedSimpArgs false
set_option linter.unnecessarySimpa false
open Go
set_option linter.unusedVariables false
set_option linter.unusedSimpArgs false
set_option maxRecDepth 10000
theorem wrap_id {n : Int} (h1 : -9223372036854775808 ≤ n) (h2 : n ≤ 9223372036854775807) : IntKind.i64.wrap n = n := by
  simp only [IntKind.wrap, IntKind.bits, IntKind.signed]
  simp
  omega
end Go.Eng
namespace Go.Eng
set_option linter.unusedVariables false
set_option linter.unusedSimpArgs false
set_option linter.unnecessarySimpa false
open Go
set_option linter.unusedVariables false
set_option linter.unusedSimpArgs false
set_option maxRecDepth 10000
set_option maxHeartbeats 4000000
theorem intRow_len (n : Int) : (intRow n).length = 1 := rfl
set_option linter.defProp false
def RW :=
  And.intro @EV (And.intro @EW (And.intro @cond_true.{1} (And.intro @cond_false.{1} (And.intro @List.length_cons.{0} (And.intro @List.length_nil.{0} (And.intro @r_partO (And.intro @r_rowO (And.intro @r_blk4 (And.intro @List.take_succ_cons.{0} (And.intro @List.take_zero.{0} (And.intro @List.drop_succ_cons.{0} (And.intro @List.drop_zero.{0} (And.intro @List.nil_append.{0} (And.intro @List.cons_append.{0} (And.intro @List.append_nil.{0} (And.intro @List.contains_nil.{0} (And.intro @Bool.false_eq_true (And.intro @if_false.{1} (And.intro @if_true.{1} (And.intro @true_and (And.intro @List.getElem?_cons_zero.{0} (And.intro @List.getElem?_cons_succ.{0} (And.intro @Nat.le_refl (And.intro @p_some (And.intro @ge_iff_le.{0} (And.intro @List.filter_nil.{0} (And.intro @Option.map_some.{0,0} (And.intro @ne_eq.{1} (And.intro @not_false_eq_true (And.intro @Bool.not_true (And.intro @Bool.not_false (And.intro @List.mem_singleton.{0} (And.intro @forall_eq.{1} (And.intro @List.not_mem_nil.{0} (And.intro @false_implies (And.intro @implies_true.{0} (And.intro @implies_true.{1} (And.intro @List.forall_mem_map.{0,0} (And.intro @List.length_map.{0,0} (And.intro @and_true (And.intro @intRow_len (And.intro @a_slAV (And.intro @a_rows (And.intro @a_len (And.intro @Int.toNat_natCast (And.intro @List.getElem?_map.{0,0} (And.intro @Nat.zero_add (And.intro @Nat.add_zero (And.intro @List.mem_cons.{0} (And.intro @forall_eq_or_imp.{1} (And.intro @Nat.mul_one (And.intro @decide_true (And.intro @decide_false (And.intro @List.contains_cons.{0} (And.intro @Bool.or_false (And.intro @Bool.false_or (And.intro @Bool.or_true (@Bool.true_or))))))))))))))))))))))))))))))))))))))))))))))))))))))))))
def KW :=
  And.intro @k_wv (And.intro @k_cl (And.intro @k_clp (And.intro @k_gd (And.intro @k_cd (And.intro @k_pk (@k_dg))))))
end Go.Eng
namespace Go.Eng
set_option linter.unusedVariables false
set_option linter.unusedSimpArgs false
set_option linter.unnecessarySimpa false
open Go
set_option linter.unusedVariables false
set_option linter.unusedSimpArgs false
set_option maxRecDepth 10000
set_option maxHeartbeats 4000000
theorem aw_loop' {C : Con} {c : CCode} {Q : Exit → S → Prop} {α : Type} (hd : α → S) (μ : α → Nat) (I : α → Prop)
    (round : ∀ x, I x → ∀ B : S → Prop, (∀ y s, I y → μ y < μ x → Le s (hd y) → B s) → aw C c (athen B Q) (hd x)) (x : α) (hx : I x) {s : S} (h0 : Le s (hd x)) : aw C (.loop c) Q s :=
  aw_loop hd μ I (fun x hx => round x hx _ fun y s hy hμ hle => ⟨hd y, .inl ⟨hle, y, rfl, hy, hμ⟩⟩) hx (.inl h0)
theorem lv_dat (m : List (Nat × Nat)) (nx : Nat) (a a' : AV) (q : Option Nat) : leSV m nx (.dat a q) (.dat a' none) = (a = a') := by cases q <;> rfl
theorem lv_tok (m : List (Nat × Nat)) (nx : Nat) (a a' : AV) (q q' : Nat) : leSV m nx (.dat a (some q)) (.dat a' (some q')) = (a = a' ∧ q = ren m q' ∧ q' < nx) := rfl
theorem lv_ptr (m : List (Nat × Nat)) (nx : Nat) (b o b' o' : Nat) : leSV m nx (.ptr b o) (.ptr b' o') = (b = b' ∧ o = o' ∧ b' < nx) := rfl
theorem lv_rp (m : List (Nat × Nat)) (nx : Nat) (a b : List AV) : leSV m nx (.rp a) (.rp b) = (a = b) := rfl
theorem lv_undef (m : List (Nat × Nat)) (nx : Nat) : leSV m nx .undef .undef = True := rfl
def tokM (a : List (Nat × SV)) : List (Nat × SV) → List (Nat × Nat)
  | [] => []
  | (t, .dat _ (some q)) :: r => match lk t a with
    | some (.dat _ (some q')) => (q, q') :: tokM a r
    | _ => tokM a r
  | _ :: r => tokM a r
def tokT (a : List (Nat × Nat)) : List (Nat × Nat) → List (Nat × Nat)
  | [] => []
  | (o, q) :: r => match lkN o a with
    | some q' => (q, q') :: tokT a r
    | none => tokT a r
def tokB (a : List (Nat × Box)) : List (Nat × Box) → List (Nat × Nat)
  | [] => []
  | (b, x) :: r => match lkB b a with
    | some y => tokT y.tags x.tags ++ tokB a r
    | none => tokB a r
theorem le_tok2 {sl sl' : List (Nat × SV)} {bx bx' : List (Nat × Box)} {lv lv' : List (Nat × Nat)} {nx nx' : Nat} (h : 4 ≤ nx') (h1 : leSlots (tokM sl sl' ++ tokB bx bx') nx' sl sl') (h2 : leBoxes (tokM sl sl' ++ tokB bx bx') nx' bx bx') (h3 : leLive (tokM sl sl' ++ tokB bx bx') nx' lv lv') (h4 : liveInj (tokM sl sl' ++ tokB bx bx') lv') : Le ⟨sl, bx, lv, nx⟩ ⟨sl', bx', lv', nx'⟩ := ⟨h, _, h1, h2, h3, h4⟩
def ownSV {α : Type} (row : α → List AV) (l : List α) (t : Nat) : SV := if l = [] then .dat .nils none else .dat (.sl (l.map row)) (some t)
def ownL {α : Type} (l : List α) (t e : Nat) : List (Nat × Nat) := if l = [] then [] else [(t, e)]
theorem wrap_succ {k : Nat} (h : k < 9223372036854775806) : IntKind.i64.wrap ((k : Int) + 1) = ((k + 1 : Nat) : Int) := by rw [wrap_id (by omega) (by omega)]; omega
end Go.Eng
namespace Go.Eng
set_option linter.unusedVariables false
set_option linter.unusedSimpArgs false
set_option linter.unnecessarySimpa false
open Go
set_option linter.unusedVariables false
def cc_secs_Ticks : CFn := ⟨15, [.tmp 2, .tmp 3],
  .seq (.reg [
    ⟨(some 2), .mv (.k (.int .i64 0)), none⟩,
    ⟨(some 3), .mv (.k (.bool false)), none⟩])
  (.join (.seq (.reg [
     ⟨(some 4), .mv (.t 0), none⟩,
     ⟨(some 5), .bin .geq (.t 4) (.k (.float .f64 0)), none⟩,
     ⟨(some 6), .mv (.t 5), none⟩,
     ⟨(some 7), .mv (.t 0), (some (6, true))⟩,
     ⟨(some 8), .bin .leq (.t 7) (.k (.float .f64 4652006429231887155)), (some (6, true))⟩,
     ⟨(some 9), .pick (.t 6) (.t 8) (.k (.bool false)), none⟩,
     ⟨(some 10), .un .not (.t 9), none⟩])
   (.cond (.t 10) (.seq (.reg [
      ⟨(some 2), .mv (.k (.int .i64 0)), none⟩,
      ⟨(some 3), .mv (.k (.bool false)), none⟩])
    (.ret))
    (.skip)))
  (.seq (.reg [
    ⟨(some 11), .mv (.t 0), none⟩,
    ⟨(some 12), .bin .mul (.k (.float .f64 4621819117588971520)) (.t 11), none⟩,
    ⟨(some 13), .xt .rte (.t 12), none⟩,
    ⟨(some 14), .cvFI .i64 (.t 13), none⟩,
    ⟨(some 2), .mv (.t 14), none⟩,
    ⟨(some 3), .mv (.k (.bool true)), none⟩])
  (.ret)))⟩
end Go.Eng
namespace Go.Eng
set_option linter.unusedVariables false
set_option linter.unusedSimpArgs false
set_option linter.unnecessarySimpa false
open Ieee
set_option linter.unusedVariables false
set_option linter.unusedSimpArgs false
set_option exponentiation.threshold 4000
def rnd (n d : Nat) : Nat := n / 2 ^ d + (if 2 ^ d < 2 * (n % 2 ^ d) ∨ (2 ^ d = 2 * (n % 2 ^ d) ∧ n / 2 ^ d % 2 = 1) then 1 else 0)
theorem pow_pos2 (d : Nat) : 0 < 2 ^ d := Nat.two_pow_pos d
theorem rnd_le (n d : Nat) : rnd n d ≤ n / 2 ^ d + 1 := by unfold rnd; split <;> omega
theorem le_rnd (n d : Nat) : n / 2 ^ d ≤ rnd n d := by unfold rnd; omega
theorem rnd_zero (n : Nat) : rnd n 0 = n := by simp [rnd, Nat.mod_one]
theorem rnd_scale (n d k : Nat) : rnd (n * 2 ^ k) (d + k) = rnd n d := by
  unfold rnd
  rw [Nat.pow_add, Nat.mul_div_mul_right _ _ (pow_pos2 k), Nat.mul_mod_mul_right]
  have hk := pow_pos2 k
  have e1 : (2 ^ d * 2 ^ k < 2 * (n % 2 ^ d * 2 ^ k)) ↔ (2 ^ d < 2 * (n % 2 ^ d)) := by
    rw [← Nat.mul_assoc]; exact Nat.mul_lt_mul_right hk
  have e2 : (2 ^ d * 2 ^ k = 2 * (n % 2 ^ d * 2 ^ k)) ↔ (2 ^ d = 2 * (n % 2 ^ d)) := by
    rw [← Nat.mul_assoc]; exact Nat.mul_left_inj (by omega)
  simp only [e1, e2]
theorem rnd_mono {n n' : Nat} (h : n ≤ n') (d : Nat) : rnd n d ≤ rnd n' d := by
  have hp := pow_pos2 d
  have hq : n / 2 ^ d ≤ n' / 2 ^ d := Nat.div_le_div_right h
  by_cases he : n / 2 ^ d = n' / 2 ^ d
  · unfold rnd
    rw [he]
    have h1 := Nat.div_add_mod n (2 ^ d)
    have h2 := Nat.div_add_mod n' (2 ^ d)
    rw [he] at h1
    have hr : n % 2 ^ d ≤ n' % 2 ^ d := by omega
    split <;> split <;> omega
  · have h1 := rnd_le n d
    have h2 := le_rnd n' d
    omega
theorem rnd_exact {n d : Nat} (q : Nat) : rnd (q * 2 ^ d) d = q := by
  have := rnd_scale q 0 d
  rw [Nat.zero_add, rnd_zero] at this
  exact this
theorem log2_lt' (n : Nat) : n < 2 ^ (n.log2 + 1) := Nat.lt_log2_self
theorem cut_even (s : Bool) (n d : Nat) : Toward.even.cut s n d = rnd n d := by
  unfold Toward.cut
  simp only [Nat.one_shiftLeft]
  by_cases hd : d ≤ n.log2 + 2
  · rw [Nat.min_eq_left hd]
    unfold rnd
    congr 1
    by_cases h1 : 2 ^ d < 2 * (n % 2 ^ d)
    · simp [h1]
    · by_cases h2 : 2 ^ d = 2 * (n % 2 ^ d)
      · by_cases h3 : n / 2 ^ d % 2 = 1
        · simp [← h2, h3]
        · simp [← h2, h3]
      · simp [h1, h2]
  · rw [Nat.min_eq_right (by omega)]
    have hl := log2_lt' n
    have h2 : 2 ^ (n.log2 + 2) = 2 * 2 ^ (n.log2 + 1) := by rw [Nat.pow_succ, Nat.mul_comm]
    have hd2 : 2 ^ (n.log2 + 2) ≤ 2 ^ d := Nat.pow_le_pow_right (by omega) (by omega)
    have e1 : n / 2 ^ (n.log2 + 2) = 0 := Nat.div_eq_of_lt (by omega)
    have e2 : n % 2 ^ (n.log2 + 2) = n := Nat.mod_eq_of_lt (by omega)
    have e3 : n / 2 ^ d = 0 := Nat.div_eq_of_lt (by omega)
    have e4 : n % 2 ^ d = n := Nat.mod_eq_of_lt (by omega)
    unfold rnd
    rw [e1, e2, e3, e4]
    have c1 : ¬ (2 ^ (n.log2 + 2) < 2 * n) := by omega
    have c2 : ¬ (2 ^ (n.log2 + 2) = 2 * n) := by omega
    have c3 : ¬ (2 ^ d < 2 * n) := by omega
    have c4 : ¬ (2 ^ d = 2 * n) := by omega
    simp [c1, c2, c3, c4]
def rV (r : Nat) : Nat := if r < 2 ^ 52 then r else (2 ^ 52 + r % 2 ^ 52) * 2 ^ (r / 2 ^ 52 - 1)
theorem rV_mono {r r' : Nat} (h : r ≤ r') : rV r ≤ rV r' := by
  unfold rV
  have hd : r / 2 ^ 52 ≤ r' / 2 ^ 52 := Nat.div_le_div_right h
  have hm := Nat.mod_lt r (pow_pos2 52)
  have hm' := Nat.mod_lt r' (pow_pos2 52)
  split
  · split
    · exact h
    · have : 1 ≤ 2 ^ (r' / 2 ^ 52 - 1) := pow_pos2 _
      calc r ≤ 2 ^ 52 + r' % 2 ^ 52 := by omega
        _ = (2 ^ 52 + r' % 2 ^ 52) * 1 := by omega
        _ ≤ _ := Nat.mul_le_mul_left _ this
  · split
    · omega
    · by_cases he : r / 2 ^ 52 = r' / 2 ^ 52
      · rw [he]
        have h1 := Nat.div_add_mod r (2 ^ 52)
        have h2 := Nat.div_add_mod r' (2 ^ 52)
        rw [he] at h1
        exact Nat.mul_le_mul_right _ (by omega)
      · have h0 : 1 ≤ r / 2 ^ 52 := by
          have : 2 ^ 52 ≤ r := by omega
          exact (Nat.le_div_iff_mul_le (pow_pos2 52)).2 (by omega)
        calc (2 ^ 52 + r % 2 ^ 52) * 2 ^ (r / 2 ^ 52 - 1) ≤ 2 ^ 53 * 2 ^ (r / 2 ^ 52 - 1) := Nat.mul_le_mul_right _ (by omega)
          _ = 2 ^ 52 * 2 ^ (r / 2 ^ 52) := by rw [← Nat.pow_add, ← Nat.pow_add]; congr 1; omega
          _ ≤ 2 ^ 52 * 2 ^ (r' / 2 ^ 52 - 1) := Nat.mul_le_mul_left _ (Nat.pow_le_pow_right (by omega) (by omega))
          _ ≤ _ := Nat.mul_le_mul_right _ (by omega)
def Lg (N : Nat) : Nat := max (N.log2 - 52) 1126
def Rg (N : Nat) : Nat := if N = 0 then 0 else min ((Lg N - 1126) * 2 ^ 52 + rnd N (Lg N)) (2047 * 2 ^ 52)
theorem Lg_le {N N' : Nat} (h0 : N ≠ 0) (h : N ≤ N') : Lg N ≤ Lg N' := by
  have : N.log2 ≤ N'.log2 := (Nat.le_log2 (by omega)).2 (Nat.le_trans (Nat.log2_self_le h0) h)
  unfold Lg; omega
theorem Lg_lt (N : Nat) : N < 2 ^ (Lg N + 53) := Nat.lt_of_lt_of_le (log2_lt' N) (Nat.pow_le_pow_right (by omega) (by unfold Lg; omega))
theorem Lg_q (N : Nat) : N / 2 ^ Lg N < 2 ^ 53 := by
  rw [Nat.div_lt_iff_lt_mul (pow_pos2 _), ← Nat.pow_add, Nat.add_comm]; exact Lg_lt N
theorem Lg_ge {N : Nat} (h : N ≠ 0) (hL : 1126 < Lg N) : 2 ^ 52 ≤ N / 2 ^ Lg N := by
  rw [Nat.le_div_iff_mul_le (pow_pos2 _), ← Nat.pow_add]
  refine Nat.le_trans (Nat.pow_le_pow_right (by omega) ?_) (Nat.log2_self_le h)
  unfold Lg at hL ⊢; omega
theorem Rg_mono {N N' : Nat} (h : N ≤ N') : Rg N ≤ Rg N' := by
  unfold Rg
  by_cases h0 : N = 0
  · simp [h0]
  · have h0' : N' ≠ 0 := by omega
    rw [if_neg h0, if_neg h0']
    have hL := Lg_le h0 h
    suffices (Lg N - 1126) * 2 ^ 52 + rnd N (Lg N) ≤ (Lg N' - 1126) * 2 ^ 52 + rnd N' (Lg N') by omega
    by_cases he : Lg N = Lg N'
    · rw [he]; have := rnd_mono h (Lg N'); omega
    · have h1 := Lg_q N
      have h2 := rnd_le N (Lg N)
      have h3 : 2 ^ 52 ≤ N' / 2 ^ Lg N' := Lg_ge h0' (by unfold Lg at he hL ⊢; omega)
      have h4 := le_rnd N' (Lg N')
      have h5 : (Lg N - 1126) + 1 ≤ Lg N' - 1126 := by unfold Lg at he hL ⊢; omega
      omega
theorem Rg_exact {N : Nat} (q : Nat) (h : N = q * 2 ^ Lg N) (hb : N < 2 ^ 3150) : Rg N < 2047 * 2 ^ 52 ∧ rV (Rg N) * 2 ^ 1126 = N := by
  by_cases h0 : N = 0
  · subst h0; simp [Rg, rV]
  · have hp := pow_pos2 (Lg N)
    have hq : N / 2 ^ Lg N = q := by
      have : q * 2 ^ Lg N / 2 ^ Lg N = q := Nat.mul_div_cancel _ hp
      rw [← h] at this; exact this
    have hr : rnd N (Lg N) = q := by
      have : rnd (q * 2 ^ Lg N) (Lg N) = q := rnd_exact (n := 0) q
      rw [← h] at this; exact this
    have hq53 := Lg_q N
    rw [hq] at hq53
    have hL : Lg N ≤ 3098 := by
      have : N.log2 < 3150 := (Nat.log2_lt h0).2 hb
      unfold Lg; omega
    have hlt : (Lg N - 1126) * 2 ^ 52 + q < 2047 * 2 ^ 52 := by omega
    have hRg : Rg N = (Lg N - 1126) * 2 ^ 52 + q := by unfold Rg; rw [if_neg h0, hr]; omega
    rw [hRg]
    refine ⟨hlt, ?_⟩
    have key : rV ((Lg N - 1126) * 2 ^ 52 + q) = q * 2 ^ (Lg N - 1126) := by
      by_cases hLe : Lg N = 1126
      · rw [hLe]
        simp only [Nat.sub_self, Nat.zero_mul, Nat.zero_add, Nat.pow_zero, Nat.mul_one]
        unfold rV
        split
        · rfl
        · have e1 : q / 2 ^ 52 = 1 := by omega
          have e2 : q % 2 ^ 52 = q - 2 ^ 52 := by omega
          rw [e1, e2]; omega
      · have hL1 : 1126 < Lg N := by unfold Lg at hLe ⊢; omega
        have h52 := Lg_ge h0 hL1
        rw [hq] at h52
        unfold rV
        have e1 : ((Lg N - 1126) * 2 ^ 52 + q) / 2 ^ 52 - 1 = Lg N - 1126 := by omega
        have e2 : 2 ^ 52 + ((Lg N - 1126) * 2 ^ 52 + q) % 2 ^ 52 = q := by omega
        rw [if_neg (by omega), e1, e2]
    rw [key, Nat.mul_assoc, ← Nat.pow_add]
    have : Lg N - 1126 + 1126 = Lg N := by have : 1126 ≤ Lg N := by unfold Lg; omega
                                           omega
    rw [this]; exact h.symm
theorem Rg_small {m k : Nat} (hm : m < 2 ^ 53) (hk : 1126 ≤ k) (hk2 : k ≤ 3090) : Rg (m * 2 ^ k) < 2047 * 2 ^ 52 ∧ rV (Rg (m * 2 ^ k)) * 2 ^ 1126 = m * 2 ^ k := by
  by_cases h0 : m = 0
  · subst h0; simp [Rg, rV]
  · have hl : (m * 2 ^ k).log2 = m.log2 + k := by
      have h1 : m * 2 ^ k ≠ 0 := Nat.mul_ne_zero h0 (by have := pow_pos2 k; omega)
      apply Nat.le_antisymm
      · have : (m * 2 ^ k).log2 < m.log2 + k + 1 := (Nat.log2_lt h1).2 (by
          rw [show m.log2 + k + 1 = (m.log2 + 1) + k by omega, Nat.pow_add]
          exact Nat.mul_lt_mul_of_pos_right (log2_lt' m) (pow_pos2 k))
        omega
      · exact (Nat.le_log2 h1).2 (by rw [Nat.pow_add]; exact Nat.mul_le_mul_right _ (Nat.log2_self_le h0))
    have hm52 : m.log2 ≤ 52 := by have := (Nat.log2_lt h0).2 hm; omega
    have hLk : Lg (m * 2 ^ k) ≤ k := by unfold Lg; omega
    refine Rg_exact (m * 2 ^ (k - Lg (m * 2 ^ k))) ?_ ?_
    · rw [Nat.mul_assoc, ← Nat.pow_add]; congr 2; omega
    · have := log2_lt' (m * 2 ^ k)
      refine Nat.lt_of_lt_of_le this (Nat.pow_le_pow_right (by omega) (by omega))
end Go.Eng
namespace Go.Eng
set_option linter.unusedVariables false
set_option linter.unusedSimpArgs false
set_option linter.unnecessarySimpa false
open Ieee
set_option linter.unusedVariables false
set_option linter.unusedSimpArgs false
set_option exponentiation.threshold 4000
abbrev DF : Format := Ieee.double
theorem df_binade : DF.binade = 2 ^ 52 := rfl
theorem df_sign : DF.signWeight = 2 ^ 63 := rfl
theorem df_inf : DF.infRung = 2047 * 2 ^ 52 := rfl
theorem df_least : DF.leastPlace = -1074 := by decide
theorem df_frac : DF.fractionBits = 52 := rfl
def dig (r : Nat) : Nat := if r < 2 ^ 52 then r else 2 ^ 52 + r % 2 ^ 52
def plc (r : Nat) : Nat := if r < 2 ^ 52 then 0 else r / 2 ^ 52 - 1
theorem rV_dig (r : Nat) : rV r = dig r * 2 ^ plc r := by unfold rV dig plc; split <;> simp
theorem dig_lt (r : Nat) : dig r < 2 ^ 53 := by unfold dig; split <;> omega
theorem read_pos {r : Nat} (h : r < 2047 * 2 ^ 52) : DF.read r = .number false (dig r) (-1074 + (plc r : Int)) := by
  have h1 : r / 2 ^ 63 % 2 = 0 := by omega
  have h2 : r % 2 ^ 63 = r := by omega
  unfold Format.read
  simp only [df_binade, df_sign, df_inf, df_least, h1, h2]
  unfold dig plc
  split
  · simp
  · simp [h]
theorem read_neg {r : Nat} (h : r < 2047 * 2 ^ 52) : DF.read (2 ^ 63 + r) = .number true (dig r) (-1074 + (plc r : Int)) := by
  have h1 : (2 ^ 63 + r) / 2 ^ 63 % 2 = 1 := by omega
  have h2 : (2 ^ 63 + r) % 2 ^ 63 = r := by omega
  unfold Format.read
  simp only [df_binade, df_sign, df_inf, df_least, h1, h2]
  unfold dig plc
  split
  · simp
  · simp [h]
theorem nearest_Rg (s : Bool) (m : Nat) (p : Int) (hp : -2200 ≤ p) : DF.nearest s m p = DF.word s (Rg (m * 2 ^ (p + 2200).toNat)) := by
  unfold Format.nearest
  by_cases h0 : m = 0
  · simp [h0, Rg]
  · rw [if_neg h0]
    obtain ⟨k, hk⟩ : ∃ k : Nat, p = (k : Int) - 2200 := ⟨(p + 2200).toNat, by omega⟩
    subst hk
    have ek : ((k : Int) - 2200 + 2200).toNat = k := by omega
    rw [ek]
    have h1 : m * 2 ^ k ≠ 0 := Nat.mul_ne_zero h0 (by have := pow_pos2 k; omega)
    have hl : (m * 2 ^ k).log2 = m.log2 + k := by
      apply Nat.le_antisymm
      · have : (m * 2 ^ k).log2 < m.log2 + k + 1 := (Nat.log2_lt h1).2 (by
          rw [show m.log2 + k + 1 = (m.log2 + 1) + k by omega, Nat.pow_add]
          exact Nat.mul_lt_mul_of_pos_right (log2_lt' m) (pow_pos2 k))
        omega
      · exact (Nat.le_log2 h1).2 (by rw [Nat.pow_add]; exact Nat.mul_le_mul_right _ (Nat.log2_self_le h0))
    have hlast : max ((k : Int) - 2200 + m.log2 - (DF.fractionBits : Nat)) DF.leastPlace = (Lg (m * 2 ^ k) : Int) - 2200 := by
      rw [df_least, df_frac]; unfold Lg; rw [hl]; omega
    simp only [hlast]
    simp only [cut_even, df_least, df_binade, df_inf]
    have hg : 1126 ≤ Lg (m * 2 ^ k) := by unfold Lg; omega
    have e1 : ((Lg (m * 2 ^ k) : Int) - 2200 - -1074).toNat = Lg (m * 2 ^ k) - 1126 := by omega
    have e2 : rnd (m <<< ((k : Int) - 2200 - ((Lg (m * 2 ^ k) : Int) - 2200)).toNat) ((Lg (m * 2 ^ k) : Int) - 2200 - ((k : Int) - 2200)).toNat = rnd (m * 2 ^ k) (Lg (m * 2 ^ k)) := by
      rw [Nat.shiftLeft_eq]
      generalize Lg (m * 2 ^ k) = L
      by_cases hLk : L ≤ k
      · have a1 : ((k : Int) - 2200 - ((L : Int) - 2200)).toNat = k - L := by omega
        have a2 : ((L : Int) - 2200 - ((k : Int) - 2200)).toNat = 0 := by omega
        rw [a1, a2]
        have := rnd_scale (m * 2 ^ (k - L)) 0 L
        rw [Nat.zero_add, Nat.mul_assoc, ← Nat.pow_add, Nat.sub_add_cancel hLk] at this
        exact this.symm
      · have a1 : ((k : Int) - 2200 - ((L : Int) - 2200)).toNat = 0 := by omega
        have a2 : ((L : Int) - 2200 - ((k : Int) - 2200)).toNat = L - k := by omega
        rw [a1, a2, Nat.pow_zero, Nat.mul_one]
        have := rnd_scale m (L - k) k
        rw [Nat.sub_add_cancel (by omega)] at this
        exact this.symm
    rw [e1, e2]
    unfold Rg
    rw [if_neg h1]
theorem word_pos (r : Nat) : DF.word false r = r := by unfold Format.word; simp
theorem write_pos (m : Nat) (p : Int) (hp : -2200 ≤ p) : DF.write (.number false m p) = Rg (m * 2 ^ (p + 2200).toNat) := by
  show DF.nearest false m p = _
  rw [nearest_Rg _ _ _ hp, word_pos]
def Fin (r : Nat) : Prop := r < 2047 * 2 ^ 52
def w10 : Nat := 4621819117588971520
theorem read_10 : DF.read w10 = .number false (5 * 2 ^ 50) (-49) := by decide
theorem mul_10 {r : Nat} (h : Fin r) : DF.mul w10 r = some (Rg (10 * rV r * 2 ^ 1126)) ∧ DF.mul r w10 = some (Rg (10 * rV r * 2 ^ 1126)) := by
  have e : 5 * 2 ^ 50 * dig r * 2 ^ ((-49 + (-1074 + (plc r : Int))) + 2200).toNat = 10 * rV r * 2 ^ 1126 := by
    have : ((-49 + (-1074 + (plc r : Int))) + 2200).toNat = plc r + 1077 := by omega
    rw [this, rV_dig, show (2 : Nat) ^ 1126 = 2 ^ 49 * 2 ^ 1077 by rw [← Nat.pow_add], Nat.pow_add, show 5 * 2 ^ 50 = 10 * 2 ^ 49 by decide]
    simp only [Nat.mul_assoc, Nat.mul_left_comm, Nat.mul_comm]
  constructor
  · unfold Format.mul
    rw [read_10, read_pos h]
    simp only [Datum.product, Option.map_some, Bool.false_bne, Bool.xor_false]
    rw [write_pos _ _ (by omega), e]
  · unfold Format.mul
    rw [read_10, read_pos h]
    simp only [Datum.product, Option.map_some, Bool.false_bne, Bool.xor_false]
    rw [write_pos _ _ (by omega), Nat.mul_comm (dig r), Int.add_comm (-1074 + (plc r : Int)) (-49), e]
theorem sum_pos (m n a b : Nat) : (Datum.number false m (-1074 + (a : Int))).sum (.number false n (-1074 + (b : Int))) = some (.number false (m * 2 ^ (a - min a b) + n * 2 ^ (b - min a b)) (-1074 + (min a b : Nat))) := by
  have e0 : min (-1074 + (a : Int)) (-1074 + (b : Int)) = -1074 + ((min a b : Nat) : Int) := by omega
  have e1 : ((-1074 + (a : Int)) - (-1074 + ((min a b : Nat) : Int))).toNat = a - min a b := by omega
  have e2 : ((-1074 + (b : Int)) - (-1074 + ((min a b : Nat) : Int))).toNat = b - min a b := by omega
  simp only [Datum.sum, e0, e1, e2, signed, Bool.false_eq_true, if_false, Nat.shiftLeft_eq]
  generalize m * 2 ^ (a - min a b) = x
  generalize n * 2 ^ (b - min a b) = y
  have h1 : ¬ ((x : Int) + (y : Int) < 0) := by omega
  have h2 : ((x : Int) + (y : Int)).natAbs = x + y := by omega
  rw [h2]
  simp [h1]
theorem sum_sub (m n a b : Nat) (h : n * 2 ^ b ≤ m * 2 ^ a) : (Datum.number false m (-1074 + (a : Int))).sum (.number true n (-1074 + (b : Int))) = some (.number false (m * 2 ^ (a - min a b) - n * 2 ^ (b - min a b)) (-1074 + (min a b : Nat))) := by
  have e0 : min (-1074 + (a : Int)) (-1074 + (b : Int)) = -1074 + ((min a b : Nat) : Int) := by omega
  have e1 : ((-1074 + (a : Int)) - (-1074 + ((min a b : Nat) : Int))).toNat = a - min a b := by omega
  have e2 : ((-1074 + (b : Int)) - (-1074 + ((min a b : Nat) : Int))).toNat = b - min a b := by omega
  simp only [Datum.sum, e0, e1, e2, signed, Bool.false_eq_true, if_false, if_true, Nat.shiftLeft_eq]
  have hxy : n * 2 ^ (b - min a b) ≤ m * 2 ^ (a - min a b) := by
    have hp := pow_pos2 (min a b)
    refine Nat.le_of_mul_le_mul_right ?_ hp
    rw [Nat.mul_assoc, Nat.mul_assoc, ← Nat.pow_add, ← Nat.pow_add, Nat.sub_add_cancel (by omega), Nat.sub_add_cancel (by omega)]
    exact h
  generalize m * 2 ^ (a - min a b) = x at *
  generalize n * 2 ^ (b - min a b) = y at *
  have h1 : ¬ ((x : Int) + -(y : Int) < 0) := by omega
  have h2 : ((x : Int) + -(y : Int)).natAbs = x - y := by omega
  rw [h2]
  simp [h1]
theorem scl (m a c : Nat) (h : c ≤ a) : m * 2 ^ (a - c) * 2 ^ (c + 1126) = m * 2 ^ a * 2 ^ 1126 := by
  rw [Nat.mul_assoc, ← Nat.pow_add, Nat.mul_assoc, ← Nat.pow_add, show a - c + (c + 1126) = a + 1126 by omega]
theorem add_pos {x y : Nat} (hx : Fin x) (hy : Fin y) : DF.add x y = some (Rg ((rV x + rV y) * 2 ^ 1126)) := by
  unfold Format.add
  rw [read_pos hx, read_pos hy, sum_pos, Option.map_some, write_pos _ _ (by omega)]
  have e : ((-1074 + ((min (plc x) (plc y) : Nat) : Int)) + 2200).toNat = min (plc x) (plc y) + 1126 := by omega
  rw [e, Nat.add_mul, scl _ _ _ (by omega), scl _ _ _ (by omega), ← rV_dig, ← rV_dig, ← Nat.add_mul]
theorem sub_pos {x y : Nat} (hx : Fin x) (hy : Fin y) (h : rV y ≤ rV x) : DF.sub x y = some (Rg ((rV x - rV y) * 2 ^ 1126)) := by
  unfold Format.sub
  rw [read_pos hx, read_pos hy]
  simp only [Datum.opposite, Bool.not_false]
  rw [rV_dig, rV_dig] at h
  rw [sum_sub _ _ _ _ h, Option.map_some, write_pos _ _ (by omega)]
  have e : ((-1074 + ((min (plc x) (plc y) : Nat) : Int)) + 2200).toNat = min (plc x) (plc y) + 1126 := by omega
  rw [e, Nat.sub_mul, scl _ _ _ (by omega), scl _ _ _ (by omega), ← rV_dig, ← rV_dig, ← Nat.sub_mul]
def ofN (n : Nat) : Nat := Rg (n * 2 ^ 2200)
theorem ofN_fin {n : Nat} (h : n < 2 ^ 53) : Fin (ofN n) ∧ rV (ofN n) = n * 2 ^ 1074 := by
  have h2200 : (1126 : Nat) ≤ 2200 := by decide
  obtain ⟨h1, h2⟩ := Rg_small (m := n) (k := 2200) h (by omega) (by omega)
  refine ⟨h1, ?_⟩
  unfold ofN
  have hp := pow_pos2 1126
  refine Nat.eq_of_mul_eq_mul_right hp ?_
  rw [h2, Nat.mul_assoc, ← Nat.pow_add]
theorem grid {a : Nat} (h : a < 2 ^ 53) : Fin (Rg (a * 2 ^ 1064 * 2 ^ 1126)) ∧ rV (Rg (a * 2 ^ 1064 * 2 ^ 1126)) = a * 2 ^ 1064 := by
  have e : a * 2 ^ 1064 * 2 ^ 1126 = a * 2 ^ 2190 := by rw [Nat.mul_assoc, ← Nat.pow_add]
  obtain ⟨h1, h2⟩ := Rg_small (k := 2190) h (by omega) (by omega)
  rw [e]
  refine ⟨h1, ?_⟩
  have hp := pow_pos2 1126
  refine Nat.eq_of_mul_eq_mul_right hp ?_
  rw [h2, e]
theorem Rg_grid {N a b : Nat} (ha : a * 2 ^ 1064 * 2 ^ 1126 ≤ N) (hb : N ≤ b * 2 ^ 1064 * 2 ^ 1126) (h : b < 2 ^ 53) : Fin (Rg N) ∧ a * 2 ^ 1064 ≤ rV (Rg N) ∧ rV (Rg N) ≤ b * 2 ^ 1064 := by
  have hab : a < 2 ^ 53 := by
    have : a * (2 ^ 1064 * 2 ^ 1126) ≤ b * (2 ^ 1064 * 2 ^ 1126) := by rw [← Nat.mul_assoc, ← Nat.mul_assoc]; exact Nat.le_trans ha hb
    have := Nat.le_of_mul_le_mul_right this (Nat.mul_pos (pow_pos2 _) (pow_pos2 _))
    omega
  obtain ⟨f1, f2⟩ := grid hab
  obtain ⟨f3, f4⟩ := grid h
  have m1 := Rg_mono ha
  have m2 := Rg_mono hb
  refine ⟨?_, ?_, ?_⟩
  · unfold Fin at f3 ⊢; omega
  · rw [← f2]; exact rV_mono m1
  · rw [← f4]; exact rV_mono m2
theorem sh_pos (m a : Nat) : rnd (m <<< (-1074 + (a : Int)).toNat) (-(-1074 + (a : Int))).toNat = rnd (m * 2 ^ a) 1074 := by
  rw [Nat.shiftLeft_eq]
  by_cases h : 1074 ≤ a
  · have e1 : (-1074 + (a : Int)).toNat = a - 1074 := by omega
    have e2 : (-(-1074 + (a : Int))).toNat = 0 := by omega
    rw [e1, e2]
    have := rnd_scale (m * 2 ^ (a - 1074)) 0 1074
    rw [Nat.zero_add, Nat.mul_assoc, ← Nat.pow_add, Nat.sub_add_cancel h] at this
    exact this.symm
  · have e1 : (-1074 + (a : Int)).toNat = 0 := by omega
    have e2 : (-(-1074 + (a : Int))).toNat = 1074 - a := by omega
    rw [e1, e2, Nat.pow_zero, Nat.mul_one]
    have := rnd_scale m (1074 - a) a
    rw [Nat.sub_add_cancel (by omega)] at this
    exact this.symm
theorem rte_pos {r : Nat} (h : Fin r) : DF.write ((DF.read r).integral .even) = ofN (rnd (rV r) 1074) := by
  rw [read_pos h]
  simp only [Datum.integral, cut_even, sh_pos]
  rw [write_pos _ _ (by omega), ← rV_dig, show ((0 : Int) + 2200).toNat = 2200 by omega]
  unfold ofN; with_reducible rfl
theorem cut_zero (s : Bool) (n d : Nat) : Toward.zero.cut s n d = n / 2 ^ d := by
  unfold Toward.cut
  simp only [Nat.one_shiftLeft, Bool.toNat_false, Nat.add_zero]
  by_cases hd : d ≤ n.log2 + 2
  · rw [Nat.min_eq_left hd]
  · rw [Nat.min_eq_right (by omega)]
    have hl := log2_lt' n
    have h2 : 2 ^ (n.log2 + 2) = 2 * 2 ^ (n.log2 + 1) := by rw [Nat.pow_succ, Nat.mul_comm]
    have hd2 : 2 ^ (n.log2 + 2) ≤ 2 ^ d := Nat.pow_le_pow_right (by omega) (by omega)
    rw [Nat.div_eq_of_lt (by omega), Nat.div_eq_of_lt (by omega)]
theorem toInt_pos {r : Nat} (h : Fin r) : (DF.read r).toInt .zero = some ((rV r / 2 ^ 1074 : Nat) : Int) := by
  rw [read_pos h, rV_dig]
  unfold Datum.toInt
  simp only [Datum.integral, cut_zero, Nat.shiftLeft_eq, signed, Bool.false_eq_true, if_false, Nat.pow_zero, Nat.mul_one]
  congr 2
  generalize plc r = a
  generalize dig r = m
  by_cases h : 1074 ≤ a
  · have e1 : (-1074 + (a : Int)).toNat = a - 1074 := by omega
    have e2 : (-(-1074 + (a : Int))).toNat = 0 := by omega
    rw [e1, e2, Nat.pow_zero, Nat.div_one]
    have : m * 2 ^ a = m * 2 ^ (a - 1074) * 2 ^ 1074 := by rw [Nat.mul_assoc, ← Nat.pow_add, Nat.sub_add_cancel h]
    rw [this, Nat.mul_div_cancel _ (pow_pos2 _)]
  · have e1 : (-1074 + (a : Int)).toNat = 0 := by omega
    have e2 : (-(-1074 + (a : Int))).toNat = 1074 - a := by omega
    rw [e1, e2, Nat.pow_zero, Nat.mul_one]
    have : m * 2 ^ a / 2 ^ 1074 = m * 2 ^ a / (2 ^ (1074 - a) * 2 ^ a) := by rw [← Nat.pow_add, Nat.sub_add_cancel (by omega)]
    rw [this, Nat.mul_div_mul_right _ _ (pow_pos2 _)]
theorem toInt_ofN {n : Nat} (h : n < 2 ^ 53) : (DF.read (ofN n)).toInt .zero = some (n : Int) := by
  obtain ⟨h1, h2⟩ := ofN_fin h
  rw [toInt_pos h1, h2, Nat.mul_div_cancel _ (pow_pos2 _)]
def key (x : Nat) : Option Int :=
  match DF.read x with
  | .nan .. => none
  | .infinity s => some (if s then -(2 ^ 2200 : Nat) else (2 ^ 2200 : Nat))
  | .number s m i => some (signed s m (i + 1074).toNat)
theorem read_bounds (x : Nat) {s : Bool} {m : Nat} {i : Int} (h : DF.read x = .number s m i) : -1074 ≤ i ∧ i ≤ 971 ∧ m < 2 ^ 53 := by
  unfold Format.read at h
  dsimp only at h
  split at h
  · rename_i h1
    cases h
    rw [df_sign, df_binade] at h1
    rw [df_sign, df_least]
    omega
  · split at h
    · rename_i h1 h2
      cases h
      rw [df_sign, df_inf] at h2
      rw [df_sign, df_least, df_binade]
      omega
    · split at h <;> cases h
theorem signed_scale (s : Bool) (m a b : Nat) : signed s m (a + b) = signed s m a * ((2 ^ b : Nat) : Int) := by
  have e : ((m <<< (a + b) : Nat) : Int) = ((m <<< a : Nat) : Int) * ((2 ^ b : Nat) : Int) := by
    rw [Nat.shiftLeft_eq, Nat.shiftLeft_eq, Nat.pow_add, ← Nat.mul_assoc, Int.natCast_mul]
  unfold signed
  cases s
  · simp only [Bool.false_eq_true, if_false]; exact e
  · simp only [if_true, e, Int.neg_mul]
theorem cmp_scale (a b : Int) (k : Nat) : compare (a * ((2 ^ k : Nat) : Int)) (b * ((2 ^ k : Nat) : Int)) = compare a b := by
  have hp : (0 : Int) < ((2 ^ k : Nat) : Int) := by have := pow_pos2 k; omega
  have h1 : (a * ((2 ^ k : Nat) : Int) < b * ((2 ^ k : Nat) : Int)) ↔ a < b := Int.mul_lt_mul_right hp
  have h2 : (a * ((2 ^ k : Nat) : Int) = b * ((2 ^ k : Nat) : Int)) ↔ a = b := ⟨fun h => Int.eq_of_mul_eq_mul_right (by omega) h, fun h => by rw [h]⟩
  simp only [compare, compareOfLessAndEq, h1, h2]
theorem signed_lt {s : Bool} {m a : Nat} (hm : m < 2 ^ 53) (ha : a ≤ 2045) : -((2 ^ 2200 : Nat) : Int) < signed s m a ∧ signed s m a < ((2 ^ 2200 : Nat) : Int) := by
  have h1 : m * 2 ^ a < 2 ^ 53 * 2 ^ 2045 := Nat.lt_of_lt_of_le (Nat.mul_lt_mul_of_pos_right hm (pow_pos2 a)) (Nat.mul_le_mul_left _ (Nat.pow_le_pow_right (by omega) ha))
  have h2 : 2 ^ 53 * 2 ^ 2045 ≤ 2 ^ 2200 := by rw [← Nat.pow_add]; exact Nat.pow_le_pow_right (by omega) (by omega)
  have h3 : m * 2 ^ a < 2 ^ 2200 := Nat.lt_of_lt_of_le h1 h2
  unfold signed
  rw [Nat.shiftLeft_eq]
  generalize m * 2 ^ a = z at *
  generalize 2 ^ 2200 = w at *
  cases s <;> simp <;> omega
def kcmp : Option Int → Option Int → Option Ordering
  | some a, some b => some (compare a b)
  | _, _ => none
theorem cmp_lt {a b : Int} (h : a < b) : compare a b = .lt := by simp [compare, compareOfLessAndEq, h]
theorem cmp_gt {a b : Int} (h : b < a) : compare a b = .gt := by
  have h1 : ¬ a < b := by omega
  have h2 : ¬ a = b := by omega
  simp [compare, compareOfLessAndEq, h1, h2]
theorem cmp_eq {a b : Int} (h : a = b) : compare a b = .eq := by simp [compare, compareOfLessAndEq, h]
theorem order_key (x y : Nat) : DF.order x y = kcmp (key x) (key y) := by
  have big : (0 : Int) < ((2 ^ 2200 : Nat) : Int) := by have := pow_pos2 2200; omega
  unfold Format.order key
  cases hx : DF.read x with
  | nan s t => cases DF.read y <;> rfl
  | infinity s =>
    cases hy : DF.read y with
    | nan _ _ => rfl
    | infinity t =>
      simp only [Datum.order, kcmp]
      generalize ((2 ^ 2200 : Nat) : Int) = w at *
      cases s <;> cases t <;> simp only [Bool.false_eq_true, if_false, if_true]
      · rw [cmp_eq rfl]; rfl
      · rw [cmp_gt (by omega)]; rfl
      · rw [cmp_lt (by omega)]; rfl
      · rw [cmp_eq rfl]; rfl
    | number t n j =>
      obtain ⟨b1, b2, b3⟩ := read_bounds y hy
      obtain ⟨c1, c2⟩ := signed_lt (s := t) (a := (j + 1074).toNat) b3 (by omega)
      simp only [Datum.order, kcmp]
      generalize ((2 ^ 2200 : Nat) : Int) = w at *
      cases s <;> simp only [Bool.false_eq_true, if_false, if_true]
      · rw [cmp_gt c2]
      · rw [cmp_lt c1]
  | number s m i =>
    obtain ⟨b1, b2, b3⟩ := read_bounds x hx
    cases hy : DF.read y with
    | nan _ _ => rfl
    | infinity t =>
      obtain ⟨c1, c2⟩ := signed_lt (s := s) (a := (i + 1074).toNat) b3 (by omega)
      simp only [Datum.order, kcmp]
      generalize ((2 ^ 2200 : Nat) : Int) = w at *
      cases t <;> simp only [Bool.false_eq_true, if_false, if_true]
      · rw [cmp_lt c2]
      · rw [cmp_gt c1]
    | number t n j =>
      obtain ⟨d1, d2, d3⟩ := read_bounds y hy
      simp only [Datum.order, kcmp]
      have e1 : (i + 1074).toNat = (i - min i j).toNat + (min i j + 1074).toNat := by omega
      have e2 : (j + 1074).toNat = (j - min i j).toNat + (min i j + 1074).toNat := by omega
      rw [e1, e2, signed_scale, signed_scale, cmp_scale]
theorem key_pos {r : Nat} (h : Fin r) : key r = some (rV r : Int) := by
  unfold key
  rw [read_pos h]
  simp only [signed, Bool.false_eq_true, if_false, Nat.shiftLeft_eq]
  rw [rV_dig, show ((-1074 + (plc r : Int)) + 1074).toNat = plc r by omega]
theorem key_neg {r : Nat} (h : Fin r) : key (2 ^ 63 + r) = some (-(rV r : Int)) := by
  unfold key
  rw [read_neg h]
  simp only [signed, if_true, Nat.shiftLeft_eq]
  rw [rV_dig, show ((-1074 + (plc r : Int)) + 1074).toNat = plc r by omega]
end Go.Eng
namespace Go.Eng
set_option linter.unusedVariables false
set_option linter.unusedSimpArgs false
set_option linter.unnecessarySimpa false
open Ieee
set_option linter.unusedVariables false
set_option linter.unusedSimpArgs false
set_option exponentiation.threshold 4000
def w999 : Nat := 4652006429231887155
def w003 : Nat := 4584304132692975288
def geF (x y : Nat) : Bool := DF.order x y == some .gt || DF.order x y == some .eq
def leF (x y : Nat) : Bool := DF.order x y == some .lt || DF.order x y == some .eq
def ltF (x y : Nat) : Bool := DF.order x y == some .lt
def gtF (x y : Nat) : Bool := DF.order x y == some .gt
def eqF (x y : Nat) : Bool := DF.order x y == some .eq
def kle : Option Int → Option Int → Bool
  | some a, some b => decide (a ≤ b)
  | _, _ => false
def klt : Option Int → Option Int → Bool
  | some a, some b => decide (a < b)
  | _, _ => false
theorem leF_key (x y : Nat) : leF x y = kle (key x) (key y) := by
  unfold leF
  rw [order_key]
  cases key x <;> cases key y <;> try rfl
  rename_i a b
  simp only [kcmp, kle]
  rcases Int.lt_trichotomy a b with h | h | h
  · rw [cmp_lt h]; simp; omega
  · rw [cmp_eq h]; simp; omega
  · rw [cmp_gt h]; simp; omega
theorem geF_key (x y : Nat) : geF x y = kle (key y) (key x) := by
  unfold geF
  rw [order_key]
  cases key x <;> cases key y <;> try rfl
  rename_i a b
  simp only [kcmp, kle]
  rcases Int.lt_trichotomy a b with h | h | h
  · rw [cmp_lt h]; simp; omega
  · rw [cmp_eq h]; simp; omega
  · rw [cmp_gt h]; simp; omega
theorem ltF_key (x y : Nat) : ltF x y = klt (key x) (key y) := by
  unfold ltF
  rw [order_key]
  cases key x <;> cases key y <;> try rfl
  rename_i a b
  simp only [kcmp, klt]
  rcases Int.lt_trichotomy a b with h | h | h
  · rw [cmp_lt h]; simp; omega
  · rw [cmp_eq h]; simp; omega
  · rw [cmp_gt h]; simp; omega
theorem gtF_key (x y : Nat) : gtF x y = klt (key y) (key x) := by
  unfold gtF
  rw [order_key]
  cases key x <;> cases key y <;> try rfl
  rename_i a b
  simp only [kcmp, klt]
  rcases Int.lt_trichotomy a b with h | h | h
  · rw [cmp_lt h]; simp; omega
  · rw [cmp_eq h]; simp; omega
  · rw [cmp_gt h]; simp; omega
theorem fin_0 : Fin 0 := by unfold Fin; omega
theorem fin_999 : Fin w999 := by unfold Fin w999; omega
theorem fin_003 : Fin w003 := by unfold Fin w003; omega
theorem rV_0 : rV 0 = 0 := by simp [rV]
theorem key_0 : key 0 = some 0 := by rw [key_pos fin_0, rV_0]; rfl
theorem key_999 : key w999 = some (rV w999 : Int) := key_pos fin_999
theorem rV_eq_0 {r : Nat} (h : rV r = 0) : r = 0 := by
  unfold rV at h
  split at h
  · exact h
  · have := Nat.mul_pos (show 0 < 2 ^ 52 + r % 2 ^ 52 by omega) (pow_pos2 (r / 2 ^ 52 - 1))
    omega
theorem inR_word {s : Nat} (hs : s < 2 ^ 64) {a : Int} (hk : key s = some a) (h0 : 0 ≤ a) (h1 : a ≤ (rV w999 : Int)) : (Fin s ∧ a = (rV s : Int)) ∨ (s = 2 ^ 63 ∧ a = 0) := by
  have big : (rV w999 : Int) < ((2 ^ 2200 : Nat) : Int) := by
    have : rV w999 < 2 ^ 2200 := by decide +kernel
    omega
  by_cases hlt : s < 2 ^ 63
  · by_cases hf : Fin s
    · left
      rw [key_pos hf] at hk
      exact ⟨hf, (Option.some.inj hk).symm⟩
    · exfalso
      unfold Fin at hf
      unfold key Format.read at hk
      dsimp only at hk
      have e1 : s % DF.signWeight = s := by rw [df_sign]; omega
      have e2 : s / DF.signWeight % 2 = 0 := by rw [df_sign]; omega
      rw [e1, e2, df_binade, df_inf] at hk
      rw [if_neg (by omega), if_neg hf] at hk
      split at hk
      · cases hk
      · rename_i s' hh
        split at hh <;> try (cases hh; done)
        cases hh
        cases hk
        simp only [show ((0 : Nat) == 1) = false from rfl, Bool.false_eq_true, if_false] at h1
        omega
      · rename_i hh
        split at hh <;> cases hh
  · obtain ⟨r, rfl⟩ : ∃ r, s = 2 ^ 63 + r := ⟨s - 2 ^ 63, by omega⟩
    by_cases hf : Fin r
    · right
      rw [key_neg hf] at hk
      have := Option.some.inj hk
      have h3 : rV r = 0 := by omega
      have := rV_eq_0 h3
      subst this
      exact ⟨rfl, by omega⟩
    · exfalso
      unfold Fin at hf
      unfold key Format.read at hk
      dsimp only at hk
      have e1 : (2 ^ 63 + r) % DF.signWeight = r := by rw [df_sign]; omega
      have e2 : (2 ^ 63 + r) / DF.signWeight % 2 = 1 := by rw [df_sign]; omega
      rw [e1, e2, df_binade, df_inf] at hk
      rw [if_neg (by omega), if_neg hf] at hk
      split at hk
      · cases hk
      · rename_i s' hh
        split at hh <;> try (cases hh; done)
        cases hh
        cases hk
        simp only [show ((1 : Nat) == 1) = true from rfl, if_true] at h0
        have := pow_pos2 2200
        omega
      · rename_i hh
        split at hh <;> cases hh
def X10 (a : Nat) : Nat := Rg (10 * a * 2 ^ 1126)
def tkN (a : Nat) : Nat := rnd (rV (X10 a)) 1074
theorem X10_mono {a b : Nat} (h : a ≤ b) : X10 a ≤ X10 b := Rg_mono (Nat.mul_le_mul_right _ (Nat.mul_le_mul_left _ h))
theorem tkN_mono {a b : Nat} (h : a ≤ b) : tkN a ≤ tkN b := rnd_mono (rV_mono (X10_mono h)) _
theorem tkN_999 : tkN (rV w999) = 9999 := by decide +kernel
theorem X10_999 : X10 (rV w999) < 2047 * 2 ^ 52 := by decide +kernel
theorem X10_fin {a : Nat} (h : a ≤ rV w999) : Fin (X10 a) := by
  have h1 := X10_mono h
  have h2 := X10_999
  unfold Fin; omega
theorem tkN_le {a : Nat} (h : a ≤ rV w999) : tkN a ≤ 9999 := by rw [← tkN_999]; exact tkN_mono h
theorem tkN_0 : tkN 0 = 0 := by decide +kernel
def inR (s : Nat) : Bool := geF s 0 && leF s w999
def tk (s : Nat) : Nat := tkN ((key s).getD 0).toNat
theorem inR_iff {s : Nat} : inR s = true ↔ ∃ a : Nat, key s = some (a : Int) ∧ a ≤ rV w999 := by
  unfold inR
  rw [geF_key, leF_key, key_0, key_999]
  cases hk : key s with
  | none => simp [kle]
  | some a =>
    simp only [kle, Bool.and_eq_true, decide_eq_true_eq, Option.some.injEq]
    constructor
    · rintro ⟨h1, h2⟩; exact ⟨a.toNat, by omega, by omega⟩
    · rintro ⟨b, rfl, h⟩; omega
theorem tk_of {s a : Nat} (h : key s = some (a : Int)) : tk s = tkN a := by simp [tk, h]
theorem rte_is {x : Nat} (h : Fin x) : rteA x = some (.float .f64 (ofN (rnd (rV x) 1074))) := by
  have hr : FloatKind.f64.decode x = .number false (dig x) (-1074 + (plc x : Int)) := read_pos h
  unfold rteA
  rw [hr]
  dsimp only
  have := rte_pos h
  rw [read_pos h] at this
  exact congrArg (fun n => some (AV.float .f64 n)) this
theorem cvFI_is {x n : Nat} (h : (DF.read x).toInt .zero = some (n : Int)) (hn : n < 2 ^ 53) : cvFIA .i64 (.float .f64 x) = some (.int .i64 n) := by
  have h' : (FloatKind.f64.decode x).toInt .zero = some (n : Int) := h
  simp only [cvFIA, h']
  rw [if_pos]
  constructor
  · have : IntKind.i64.min = -(2 ^ 63) := by decide
    omega
  · have : IntKind.i64.max = 2 ^ 63 - 1 := by decide
    omega
theorem z_1 : DF.mul w10 (2 ^ 63) = some (2 ^ 63) := by decide +kernel
theorem z_4 : (DF.read (2 ^ 63)).toInt .zero = some ((0 : Nat) : Int) := by decide +kernel
theorem z_h1 : FloatKind.f64.decode (2 ^ 63) = .number true 0 (-1074) := by decide +kernel
theorem z_h2 : FloatKind.f64.encode ((Datum.number true 0 (-1074)).integral .even) = 2 ^ 63 := by decide +kernel
theorem z_3 : rteA (2 ^ 63) = some (.float .f64 (2 ^ 63)) := by
  unfold rteA
  rw [z_h1]
  show some (AV.float .f64 (FloatKind.f64.encode ((Datum.number true 0 (-1074)).integral .even))) = _
  rw [z_h2]
theorem ticks_run {s : Nat} (hs : s < 2 ^ 64) (h : inR s = true) : ∃ x y, DF.mul w10 s = some x ∧ rteA x = some (.float .f64 y) ∧ cvFIA .i64 (.float .f64 y) = some (.int .i64 (tk s)) := by
  obtain ⟨a, h1, h2⟩ := inR_iff.1 h
  have ht := tk_of h1
  rcases inR_word hs h1 (by omega) (by omega) with ⟨hf, ha⟩ | ⟨rfl, ha⟩
  · have ha : a = rV s := by omega
    subst ha
    have hX := X10_fin h2
    have hle := tkN_le h2
    refine ⟨X10 (rV s), ofN (rnd (rV (X10 (rV s))) 1074), (mul_10 hf).1, rte_is hX, ?_⟩
    rw [ht]
    exact cvFI_is (toInt_ofN (by unfold tkN at hle; omega)) (by omega)
  · have ha : a = 0 := by omega
    subst ha
    refine ⟨2 ^ 63, 2 ^ 63, z_1, z_3, ?_⟩
    rw [ht, tkN_0]
    exact cvFI_is z_4 (by omega)
theorem sub_le' {a b c d : Nat} (h : a ≤ b) (h' : d ≤ c) : a - c ≤ b - d := by omega
theorem le_scale {x y c : Nat} (h : x * 2 ^ c ≤ y * 2 ^ c) : x ≤ y := Nat.le_of_mul_le_mul_right h (pow_pos2 c)
theorem div_10 {k a : Nat} (hk : 1 ≤ k) (hk2 : k ≤ 9999) (h1 : 10 * a ≤ 1024 * k) (h2 : 1024 * k ≤ 10 * (a + 1)) : ∃ s, DF.div (ofN k) w10 = some s ∧ Fin s ∧ a * 2 ^ 1064 ≤ rV s ∧ rV s ≤ (a + 1) * 2 ^ 1064 := by
  obtain ⟨f1, f2⟩ := ofN_fin (n := k) (by omega)
  generalize ofN k = r at *
  have hd := dig_lt r
  rw [rV_dig] at f2
  -- the number is a normal one
  have hr52 : 2 ^ 52 ≤ r := by
    refine Nat.le_of_not_lt fun h => ?_
    have e1 : dig r = r := by unfold dig; rw [if_pos h]
    have e2 : plc r = 0 := by unfold plc; rw [if_pos h]
    rw [e1, e2, Nat.pow_zero, Nat.mul_one] at f2
    have : 1 * 2 ^ 1074 ≤ k * 2 ^ 1074 := Nat.mul_le_mul_right _ hk
    have : (2 : Nat) ^ 52 ≤ 2 ^ 1074 := Nat.pow_le_pow_right (by omega) (by omega)
    omega
  have hd52 : 2 ^ 52 ≤ dig r := by unfold dig; rw [if_neg (by omega)]; omega
  have hlog : (dig r).log2 = 52 := by
    have h0 : dig r ≠ 0 := by omega
    have a1 : (dig r).log2 < 53 := (Nat.log2_lt h0).2 hd
    have a2 : 52 ≤ (dig r).log2 := (Nat.le_log2 h0).2 hd52
    omega
  have hp : plc r ≤ 1036 := by
    refine Nat.le_of_not_lt fun h => ?_
    have b1 : 2 ^ 52 * 2 ^ 1037 ≤ dig r * 2 ^ plc r := Nat.mul_le_mul hd52 (Nat.pow_le_pow_right (by omega) h)
    rw [f2, ← Nat.pow_add] at b1
    have b2 : k * 2 ^ 1074 < 2 ^ 15 * 2 ^ 1074 := Nat.mul_lt_mul_of_pos_right (by omega) (pow_pos2 _)
    rw [← Nat.pow_add] at b2
    omega
  have hl10 : (5 * 2 ^ 50 : Nat).log2 = 52 := by decide
  have hmore : 54 + (5 * 2 ^ 50 : Nat).log2 - (dig r).log2 = 54 := by rw [hlog, hl10]
  have hdiv : DF.div r w10 = some (Rg ((2 * (dig r * 2 ^ 54 / (5 * 2 ^ 50)) + (dig r * 2 ^ 54 % (5 * 2 ^ 50) != 0).toNat) * 2 ^ (plc r + 1120))) := by
    unfold Format.div
    rw [read_10, read_pos f1]
    have hfb : DF.fractionBits + 2 = 54 := rfl
    rw [hfb]
    unfold Datum.quotient
    dsimp only
    rw [if_neg (by omega), hmore, Nat.shiftLeft_eq, Option.map_some]
    have : ((-1074 + (plc r : Int)) - -49 - (54 : Nat) - 1 + 2200).toNat = plc r + 1120 := by omega
    rw [show (false ^^ false) = false from rfl, write_pos _ _ (by omega), this]
  obtain ⟨n, hn⟩ : ∃ n : Nat, n = 5 * 2 ^ 50 := ⟨_, rfl⟩
  rw [← hn] at hdiv
  obtain ⟨D, hDD⟩ : ∃ D : Nat, D = dig r * 2 ^ 54 := ⟨_, rfl⟩
  rw [← hDD] at hdiv
  refine ⟨_, hdiv, ?_⟩
  -- the floor against a grid number
  have grid5 : ∀ z : Nat, (z * 2 ^ (1069 - plc r)) * n * 2 ^ plc r = 5 * z * 2 ^ 1119 := by
    intro z
    rw [hn]
    have : z * 2 ^ (1069 - plc r) * (5 * 2 ^ 50) * 2 ^ plc r = 5 * z * (2 ^ (1069 - plc r) * 2 ^ 50 * 2 ^ plc r) := by
      simp only [Nat.mul_assoc, Nat.mul_left_comm, Nat.mul_comm]
    rw [this, ← Nat.pow_add, ← Nat.pow_add]
    rw [show 1069 - plc r + 50 + plc r = 1119 by omega]
  have hD : D * 2 ^ plc r = 512 * k * 2 ^ 1119 := by
    rw [hDD]
    have : dig r * 2 ^ 54 * 2 ^ plc r = dig r * 2 ^ plc r * 2 ^ 54 := by simp only [Nat.mul_assoc, Nat.mul_left_comm, Nat.mul_comm]
    rw [this, f2, Nat.mul_assoc, ← Nat.pow_add, show 1074 + 54 = 9 + 1119 by omega, Nat.pow_add, ← Nat.mul_assoc, Nat.mul_comm k]
  have hn0 : 0 < n := by omega
  have lo : ∀ z, 5 * z ≤ 512 * k → z * 2 ^ (1069 - plc r) ≤ D / n := by
    intro z hz
    rw [Nat.le_div_iff_mul_le hn0]
    refine le_scale (c := plc r) ?_
    rw [grid5, hD]; exact Nat.mul_le_mul_right _ hz
  have hi : ∀ z, 512 * k ≤ 5 * z → 2 * (D / n) + (D % n != 0).toNat ≤ 2 * (z * 2 ^ (1069 - plc r)) := by
    intro z hz
    have hle : D ≤ z * 2 ^ (1069 - plc r) * n := by
      refine le_scale (c := plc r) ?_
      rw [grid5, hD]; exact Nat.mul_le_mul_right _ hz
    generalize z * 2 ^ (1069 - plc r) = Z at *
    have hdm := Nat.div_add_mod D n
    have h3 : D / n ≤ Z := by
      rw [← Nat.mul_div_cancel Z hn0]; exact Nat.div_le_div_right hle
    by_cases h0 : D % n = 0
    · simp [h0]; omega
    · have h4 : D / n < Z := by
        refine Nat.lt_of_le_of_ne h3 fun e => ?_
        rw [e, Nat.mul_comm] at hdm
        omega
      have h5 : (D % n != 0).toNat = 1 := by simp [h0]
      omega
  have sc : ∀ z : Nat, z * 2 ^ 1064 * 2 ^ 1126 = 2 * (z * 2 ^ (1069 - plc r)) * 2 ^ (plc r + 1120) := by
    intro z
    have : 2 * (z * 2 ^ (1069 - plc r)) * 2 ^ (plc r + 1120) = z * (2 ^ 1 * 2 ^ (1069 - plc r) * 2 ^ (plc r + 1120)) := by
      simp only [Nat.mul_assoc, Nat.mul_left_comm, Nat.mul_comm, Nat.pow_one]
    rw [this, ← Nat.pow_add, ← Nat.pow_add, Nat.mul_assoc, ← Nat.pow_add]
    rw [show 1 + (1069 - plc r) + (plc r + 1120) = 1064 + 1126 by omega]
  have hlo : a * 2 ^ 1064 * 2 ^ 1126 ≤ (2 * (D / n) + (D % n != 0).toNat) * 2 ^ (plc r + 1120) := by
    rw [sc]
    have := lo a (by omega)
    exact Nat.mul_le_mul_right _ (by omega)
  have hhi : (2 * (D / n) + (D % n != 0).toNat) * 2 ^ (plc r + 1120) ≤ (a + 1) * 2 ^ 1064 * 2 ^ 1126 := by
    rw [sc]
    exact Nat.mul_le_mul_right _ (hi (a + 1) (by omega))
  have hb : a + 1 < 2 ^ 53 := by omega
  exact Rg_grid hlo hhi hb
theorem rnd_grid {c k : Nat} (h1 : 1024 * k < c + 512) (h2 : c < 1024 * k + 512) : rnd c 10 = k := by
  unfold rnd; split <;> omega
theorem rnd_1064 (c : Nat) : rnd (c * 2 ^ 1064) 1074 = rnd c 10 := rnd_scale c 10 1064
theorem tk_grid {v a b k : Nat} (h1 : a * 2 ^ 1064 ≤ v) (h2 : v ≤ b * 2 ^ 1064) (hb : b < 2 ^ 40) (h3 : 1024 * k < 10 * a + 512) (h4 : 10 * b < 1024 * k + 512) : tkN v = k := by
  have e : ∀ z : Nat, 10 * (z * 2 ^ 1064) = 10 * z * 2 ^ 1064 := fun z => by rw [Nat.mul_assoc]
  have hx := Rg_grid (N := 10 * v * 2 ^ 1126) (a := 10 * a) (b := 10 * b) (by rw [← e]; exact Nat.mul_le_mul_right _ (Nat.mul_le_mul_left _ h1)) (by rw [← e]; exact Nat.mul_le_mul_right _ (Nat.mul_le_mul_left _ h2)) (by omega)
  obtain ⟨_, g1, g2⟩ := hx
  have m1 := rnd_mono g1 1074
  have m2 := rnd_mono g2 1074
  rw [rnd_1064] at m1 m2
  have hab : a ≤ b := le_scale (Nat.le_trans h1 h2)
  have r1 := rnd_grid (c := 10 * a) (k := k) (by omega) (by omega)
  have r2 := rnd_grid (c := 10 * b) (k := k) (by omega) (by omega)
  have : tkN v = rnd (rV (Rg (10 * v * 2 ^ 1126))) 1074 := rfl
  omega
theorem g003_lo : 30 * 2 ^ 1064 ≤ rV w003 := by decide +kernel
theorem g003_hi : rV w003 ≤ 31 * 2 ^ 1064 := by decide +kernel
theorem g999 : 1023897 * 2 ^ 1064 ≤ rV w999 := by decide +kernel
theorem div_9999 : DF.div (ofN 9999) w10 = some w999 := by decide +kernel
theorem div_0 : DF.div (ofN 0) w10 = some 0 := by decide +kernel
theorem tkN_003 : tkN (rV w003) = 0 := by decide +kernel
def near (off k : Nat) : Prop := ltF off 0 = false → gtF off w999 = false → inR off = true ∧ tk off = k
theorem near_of {v : Nat} {k : Nat} (hf : Fin v) (ht : tkN (rV v) = k) : near v k := by
  intro h1 h2
  rw [gtF_key, key_pos hf, key_999] at h2
  simp only [klt, decide_eq_false_iff_not] at h2
  exact ⟨inR_iff.2 ⟨rV v, key_pos hf, by omega⟩, by rw [tk_of (key_pos hf)]; exact ht⟩
theorem back {k : Nat} (hk : k ≤ 9999) : ∃ s u d, DF.div (ofN k) w10 = some s ∧ DF.add s w003 = some u ∧ DF.sub s w003 = some d ∧ s < 2 ^ 64 ∧ u < 2 ^ 64 ∧ inR s = true ∧ tk s = k ∧ near u k ∧ near d k ∧ d < 2 ^ 64 := by
  by_cases h0 : k = 0
  · subst h0
    have hd : DF.sub 0 w003 = some (2 ^ 63 + w003) := by decide +kernel
    have hu : DF.add 0 w003 = some w003 := by decide +kernel
    refine ⟨0, w003, 2 ^ 63 + w003, div_0, hu, hd, by omega, by unfold w003; omega, inR_iff.2 ⟨0, key_0, by omega⟩, by rw [tk_of (a := 0) key_0]; exact tkN_0, near_of fin_003 tkN_003, ?_, by unfold w003; omega⟩
    intro h1
    rw [ltF_key, key_neg fin_003, key_0] at h1
    simp only [klt, decide_eq_false_iff_not] at h1
    have : 0 < rV w003 := by decide +kernel
    omega
  · obtain ⟨s, h1, h2, h3, h4⟩ := div_10 (k := k) (a := 1024 * k / 10) (by omega) hk (by omega) (by omega)
    generalize ha : 1024 * k / 10 = a at *
    have ha1 : 10 * a ≤ 1024 * k := by omega
    have ha2 : 1024 * k ≤ 10 * a + 9 := by omega
    have hs999 : rV s ≤ rV w999 := by
      by_cases h9 : k = 9999
      · subst h9
        rw [div_9999] at h1
        cases h1
        exact Nat.le_refl _
      · refine Nat.le_trans h4 (Nat.le_trans (Nat.mul_le_mul_right _ (by omega)) g999)
    have hts : tkN (rV s) = k := tk_grid h3 h4 (by omega) (by omega) (by omega)
    have hsub : rV w003 ≤ rV s := Nat.le_trans g003_hi (Nat.le_trans (Nat.mul_le_mul_right _ (by omega)) h3)
    have hU := Rg_grid (N := (rV s + rV w003) * 2 ^ 1126) (a := a + 30) (b := a + 1 + 31) (Nat.mul_le_mul_right _ (by rw [Nat.add_mul]; exact Nat.add_le_add h3 g003_lo)) (Nat.mul_le_mul_right _ (by rw [Nat.add_mul (a + 1)]; exact Nat.add_le_add h4 g003_hi)) (by omega)
    have hD := Rg_grid (N := (rV s - rV w003) * 2 ^ 1126) (a := a - 31) (b := a + 1 - 30) (Nat.mul_le_mul_right _ (by rw [Nat.sub_mul]; exact sub_le' h3 g003_hi)) (Nat.mul_le_mul_right _ (by rw [Nat.sub_mul]; exact sub_le' h4 g003_lo)) (by omega)
    refine ⟨s, _, _, h1, add_pos h2 fin_003, sub_pos h2 fin_003 hsub, ?_, ?_, inR_iff.2 ⟨rV s, key_pos h2, hs999⟩, by rw [tk_of (key_pos h2)]; exact hts, ?_, ?_, ?_⟩
    · unfold Fin at h2; omega
    · have := hU.1; unfold Fin at this; omega
    · exact near_of hU.1 (tk_grid hU.2.1 hU.2.2 (by omega) (by omega) (by omega))
    · exact near_of hD.1 (tk_grid hD.2.1 hD.2.2 (by omega) (by omega) (by omega))
    · have := hD.1; unfold Fin at this; omega
end Go.Eng
namespace Go.Eng
set_option linter.unusedVariables false
set_option linter.unusedSimpArgs false
set_option linter.unnecessarySimpa false
open Go
set_option linter.unusedVariables false
set_option linter.unusedSimpArgs false
set_option maxRecDepth 10000
set_option maxHeartbeats 4000000
abbrev Fl (x : Nat) : AV := .float .f64 x
theorem f_geq (x y : Nat) : binA .geq (.float .f64 x) (.float .f64 y) = some (.bool (geF x y)) := rfl
theorem f_leq (x y : Nat) : binA .leq (.float .f64 x) (.float .f64 y) = some (.bool (leF x y)) := rfl
theorem f_gtr (x y : Nat) : binA .gtr (.float .f64 x) (.float .f64 y) = some (.bool (gtF x y)) := rfl
theorem f_lss (x y : Nat) : binA .lss (.float .f64 x) (.float .f64 y) = some (.bool (ltF x y)) := rfl
theorem f_eql (x y : Nat) : binA .eql (.float .f64 x) (.float .f64 y) = some (.bool (eqF x y)) := rfl
theorem f_neq (x y : Nat) : binA .neq (.float .f64 x) (.float .f64 y) = some (.bool (!eqF x y)) := rfl
theorem f_mul (x y : Nat) : binA .mul (.float .f64 x) (.float .f64 y) = (DF.mul x y).map (.float .f64) := rfl
theorem f_sub (x y : Nat) : binA .sub (.float .f64 x) (.float .f64 y) = (DF.sub x y).map (.float .f64) := rfl
theorem f_add (x y : Nat) : binA .add (.float .f64 x) (.float .f64 y) = (DF.add x y).map (.float .f64) := rfl
theorem f_quo (x y : Nat) : binA .quo (.float .f64 x) (.float .f64 y) = (DF.div x y).map (.float .f64) := rfl
theorem f_neg (x : Nat) : unA .neg (.float .f64 x) = some (.float .f64 (Op.negFloat .f64 x)) := rfl
set_option linter.defProp false
def FLW := And.intro @f_geq (And.intro @f_leq (And.intro @f_gtr (And.intro @f_lss (And.intro @f_eql (And.intro @f_neq (And.intro @f_mul (And.intro @f_sub (And.intro @f_add (And.intro @f_quo @f_neg)))))))))
def tkAV (s : Nat) : AV := .tup [I (if inR s then (tk s : Int) else 0), B (inR s)]
def sTicks.Spec (C : Con) (f : Nat) : Prop := ∀ s : Nat, s < 2 ^ 64 → C.c f [Fl s] (tkAV s) none
section
variable {P : Program} (hm : P.follows .mixedOrders = true) {f : Nat}
include hm
theorem sTicks.ok (hc : cFn P f = some cc_secs_Ticks) : sTicks.Spec (Pure P) f := by
  intro s hs
  have h1 : inR s = (geF s 0 && leF s 4652006429231887155) := rfl
  obtain ⟨b1, hb1⟩ : ∃ b, geF s 0 = b := ⟨_, rfl⟩
  obtain ⟨b2, hb2⟩ : ∃ b, leF s 4652006429231887155 = b := ⟨_, rfl⟩
  rw [hb1, hb2] at h1
  have hrun := fun h => ticks_run (s := s) hs h
  clear hs
  refine pure_of hm hc (by show 1 ≤ 15; decide) (aw_flat (keep := []) (i := 0) ?_)
  try simp only [I, B, D, RW, ↓ KW, fillA, setCells, stTags, flat, Nat.reduceBEq, Nat.reduceAdd, Nat.reduceLeDiff, Int.reduceNe, Int.reduceBEq, Int.reduceEq, reduceCtorEq, Nat.reduceMul, Int.reduceLT, Int.reduceLE, Int.reduceToNat, cc_secs_Ticks, FLW]
  cases b1 <;> cases b2
  · try simp only [I, B, D, RW, ↓ KW, fillA, setCells, stTags, flat, Nat.reduceBEq, Nat.reduceAdd, Nat.reduceLeDiff, Int.reduceNe, Int.reduceBEq, Int.reduceEq, reduceCtorEq, Nat.reduceMul, Int.reduceLT, Int.reduceLE, Int.reduceToNat, FLW, hb1, hb2]
    rw [tkAV, h1]; rfl
  · try simp only [I, B, D, RW, ↓ KW, fillA, setCells, stTags, flat, Nat.reduceBEq, Nat.reduceAdd, Nat.reduceLeDiff, Int.reduceNe, Int.reduceBEq, Int.reduceEq, reduceCtorEq, Nat.reduceMul, Int.reduceLT, Int.reduceLE, Int.reduceToNat, FLW, hb1, hb2]
    rw [tkAV, h1]; rfl
  · try simp only [I, B, D, RW, ↓ KW, fillA, setCells, stTags, flat, Nat.reduceBEq, Nat.reduceAdd, Nat.reduceLeDiff, Int.reduceNe, Int.reduceBEq, Int.reduceEq, reduceCtorEq, Nat.reduceMul, Int.reduceLT, Int.reduceLE, Int.reduceToNat, FLW, hb1, hb2]
    rw [tkAV, h1]; rfl
  · obtain ⟨x, y, e1, e2, e3⟩ := hrun h1
    have e1' : DF.mul 4621819117588971520 s = some x := e1
    try simp only [I, B, D, RW, ↓ KW, fillA, setCells, stTags, flat, Nat.reduceBEq, Nat.reduceAdd, Nat.reduceLeDiff, Int.reduceNe, Int.reduceBEq, Int.reduceEq, reduceCtorEq, Nat.reduceMul, Int.reduceLT, Int.reduceLE, Int.reduceToNat, FLW, hb1, hb2, e1', e2, e3]
    rw [tkAV, h1]; rfl
end
end Go.Eng
namespace Go.Eng
set_option linter.unusedVariables false
set_option linter.unusedSimpArgs false
set_option linter.unnecessarySimpa false
open Go
set_option linter.unusedVariables false
set_option linter.unusedSimpArgs false
set_option maxRecDepth 10000
set_option maxHeartbeats 4000000
structure Sp where
  group : Int
  ring : Int
  pos : Int
  p : Int
  deriving Inhabited, DecidableEq
def Sp.cells (s : Sp) : List AV := [I s.group, I s.ring, I s.pos, I s.p]
theorem Sp.len (s : Sp) : s.cells.length = 4 := rfl
theorem Gr.len (s : Gr) : s.cells.length = 2 := rfl
end Go.Eng
namespace Go.Eng
set_option linter.unusedVariables false
set_option linter.unusedSimpArgs false
set_option linter.unnecessarySimpa false
open Go
set_option linter.unusedVariables false
set_option linter.unusedSimpArgs false
set_option maxRecDepth 10000
set_option maxHeartbeats 4000000
theorem Rl.len (r : Rl) : r.cells.length = 11 := rfl
end Go.Eng
namespace Go.Eng
set_option linter.unusedVariables false
set_option linter.unusedSimpArgs false
set_option linter.unnecessarySimpa false
open Go
set_option linter.unusedVariables false
set_option linter.unusedSimpArgs false
set_option maxRecDepth 10000
set_option maxHeartbeats 4000000
structure Tb.Ln (t : Tb) : Prop where
  phases : t.phases.length = 8
  conflict : t.conflict.length = 8
  flash : t.flash.length = 8
theorem Tb.Ok.ln {t : Tb} (h : t.Ok) : t.Ln := ⟨h.phases, h.conflict, h.flash⟩
section
variable {t : Tb} (h : t.Ln)
include h
theorem Tb.Ln.len : t.cells.length = 131 := by
  simp [Tb.cells, flatMap_len Ph.len, h.phases, h.conflict, h.flash]
theorem Tb.Ln.whole : partA t.cells 0 (some 131) = some (.agg t.cells) := by
  have hl := h.len
  rw [p_some _ _ _ (by omega), List.drop_zero, ← hl, List.take_length]
theorem Tb.Ln.at113 : t.cells[113]? = some (slAV Det.cells t.detectors) := by
  simp [Tb.cells, List.getElem?_append, flatMap_len Ph.len, h.phases, h.conflict, h.flash, List.getElem?_cons]
theorem Tb.Ln.at114 : t.cells[114]? = some (slAV Rl.cells t.rails) := by
  simp [Tb.cells, List.getElem?_append, flatMap_len Ph.len, h.phases, h.conflict, h.flash, List.getElem?_cons]
theorem Tb.Ln.at115 : t.cells[115]? = some (slAV Bs.cells t.buses) := by
  simp [Tb.cells, List.getElem?_append, flatMap_len Ph.len, h.phases, h.conflict, h.flash, List.getElem?_cons]
def Tb.rest (t : Tb) : List AV := slAV Gr.cells t.groups :: (t.conflict.map I ++ (slAV Det.cells t.detectors :: slAV Rl.cells t.rails :: slAV Bs.cells t.buses ::
    I t.extend :: I t.budget :: I t.start :: I t.revert :: I t.least :: (t.flash.map I ++ [I t.window, I t.share])))
end
end Go.Eng
namespace Go.Eng
set_option linter.unusedVariables false
set_option linter.unusedSimpArgs false
set_option linter.unnecessarySimpa false
open Go
set_option linter.unusedVariables false
set_option linter.unusedSimpArgs false
set_option maxRecDepth 10000
set_option maxHeartbeats 4000000
def Tb0 : Tb := ⟨List.replicate 8 default, none, List.replicate 8 0, none, none, none, 0, 0, 0, 0, 0, List.replicate 8 0, 0, 0⟩
theorem Det.len (d : Det) : d.cells.length = 7 := rfl
theorem Bs.len (d : Bs) : d.cells.length = 2 := rfl
end Go.Eng
namespace Go.Eng
set_option linter.unusedVariables false
set_option linter.unusedSimpArgs false
set_option linter.unnecessarySimpa false
open Go
set_option linter.unusedVariables false
set_option linter.unusedSimpArgs false
set_option maxRecDepth 10000
set_option maxHeartbeats 4000000
def bv (s : Int) : BitVec 64 := BitVec.ofInt 64 s
def tb (s : Int) (i : Nat) : Bool := (bv s).getLsbD i
end Go.Eng
namespace Go.Eng
set_option linter.unusedVariables false
set_option linter.unusedSimpArgs false
set_option linter.unnecessarySimpa false
open Go
set_option linter.unusedVariables false
set_option linter.unusedSimpArgs false
set_option maxRecDepth 10000
set_option maxHeartbeats 4000000
structure Sh where
  colour : List Int
  time : List Int
  foot : List Int
  ftime : List Int
  entry : Bool
  deriving Inhabited, DecidableEq
def Sh.cells (s : Sh) : List AV := s.colour.map I ++ (s.time.map I ++ (s.foot.map I ++ (s.ftime.map I ++ [B s.entry])))
structure Sh.Ok (s : Sh) : Prop where
  colour : s.colour.length = 8
  time : s.time.length = 8
  foot : s.foot.length = 8
  ftime : s.ftime.length = 8
def Sh.c (s : Sh) (p : Nat) : Int := s.colour.getD p 0
def Sh.t (s : Sh) (p : Nat) : Int := s.time.getD p 0
def Sh.f (s : Sh) (p : Nat) : Int := s.foot.getD p 0
theorem Sh.len {s : Sh} (h : s.Ok) : s.cells.length = 33 := by simp [Sh.cells, h.colour, h.time, h.foot, h.ftime]
theorem Sh.whole {s : Sh} (h : s.Ok) : partA s.cells 0 (some 33) = some (.agg s.cells) := by
  have := Sh.len h
  simp [partA, this]
  rw [← this, List.take_length]
structure StOk (t : Tb) (a b : Sh) : Prop where
  t : t.Ln
  a : a.Ok
  b : b.Ok
end Go.Eng
namespace Go.Eng
set_option linter.unusedVariables false
set_option linter.unusedSimpArgs false
set_option linter.unnecessarySimpa false
open Go
set_option linter.unusedVariables false
def cc_table_May (f_table_every_api_Phase f_table_phase f_table_every_2_int f_table_group f_table_within f_table_every_api_Detector f_table_detector f_table_every_api_Rail f_table_rail f_table_every_api_Bus f_table_bus e_int f_table_times : Nat) : CFn := ⟨58, [.tmp 2],
  .seq (.reg [
    ⟨(some 1), .box (.t 0), none⟩,
    ⟨(some 2), .mv (.k (.bool false)), none⟩])
  (.seq (.reg [
    ⟨(some 3), .fa (.t 1) 0, none⟩,
    ⟨(some 4), .slA (.t 3) 8 13, none⟩,
    ⟨(some 5), .call f_table_every_api_Phase [(.t 4), (.k (.int .i64 8)), (.k (.fn (.func f_table_phase) [] []))], none⟩,
    ⟨(some 6), .mv (.t 5), none⟩,
    ⟨(some 7), .fa (.t 1) 104, (some (6, true))⟩,
    ⟨(some 8), .ld (.t 7) none, (some (6, true))⟩,
    ⟨(some 9), .call f_table_every_2_int [(.t 8), (.k (.int .i64 4)), (.k (.fn (.func f_table_group) [] []))], (some (6, true))⟩,
    ⟨(some 10), .pick (.t 6) (.t 9) (.k (.bool false)), none⟩,
    ⟨(some 11), .mv (.t 10), none⟩,
    ⟨(some 12), .fa (.t 1) 105, (some (11, true))⟩,
    ⟨(some 13), .slA (.t 12) 8 1, (some (11, true))⟩,
    ⟨(some 14), .call f_table_within [(.k (.int .i64 255)), (.t 13)], (some (11, true))⟩,
    ⟨(some 15), .pick (.t 11) (.t 14) (.k (.bool false)), none⟩,
    ⟨(some 16), .mv (.t 15), none⟩,
    ⟨(some 17), .fa (.t 1) 113, (some (16, true))⟩,
    ⟨(some 18), .ld (.t 17) none, (some (16, true))⟩,
    ⟨(some 19), .call f_table_every_api_Detector [(.t 18), (.k (.int .i64 16)), (.k (.fn (.func f_table_detector) [] []))], (some (16, true))⟩,
    ⟨(some 20), .pick (.t 16) (.t 19) (.k (.bool false)), none⟩,
    ⟨(some 21), .mv (.t 20), none⟩,
    ⟨(some 22), .fa (.t 1) 114, (some (21, true))⟩,
    ⟨(some 23), .ld (.t 22) none, (some (21, true))⟩,
    ⟨(some 24), .call f_table_every_api_Rail [(.t 23), (.k (.int .i64 4)), (.k (.fn (.func f_table_rail) [] []))], (some (21, true))⟩,
    ⟨(some 25), .pick (.t 21) (.t 24) (.k (.bool false)), none⟩,
    ⟨(some 26), .mv (.t 25), none⟩,
    ⟨(some 27), .fa (.t 1) 115, (some (26, true))⟩,
    ⟨(some 28), .ld (.t 27) none, (some (26, true))⟩,
    ⟨(some 29), .call f_table_every_api_Bus [(.t 28), (.k (.int .i64 4)), (.k (.fn (.func f_table_bus) [] []))], (some (26, true))⟩,
    ⟨(some 30), .pick (.t 26) (.t 29) (.k (.bool false)), none⟩,
    ⟨(some 31), .mv (.t 30), none⟩,
    ⟨(some 32), .fa (.t 1) 116, (some (31, true))⟩,
    ⟨(some 33), .ld (.t 32) none, (some (31, true))⟩,
    ⟨(some 34), .fa (.t 1) 117, (some (31, true))⟩,
    ⟨(some 35), .ld (.t 34) none, (some (31, true))⟩,
    ⟨(some 36), .fa (.t 1) 118, (some (31, true))⟩,
    ⟨(some 37), .ld (.t 36) none, (some (31, true))⟩,
    ⟨(some 38), .fa (.t 1) 119, (some (31, true))⟩,
    ⟨(some 39), .ld (.t 38) none, (some (31, true))⟩,
    ⟨(some 40), .fa (.t 1) 120, (some (31, true))⟩,
    ⟨(some 41), .ld (.t 40) none, (some (31, true))⟩,
    ⟨(some 42), .bsl e_int 1 [(.t 33), (.t 35), (.t 37), (.t 39), (.t 41)], (some (31, true))⟩,
    ⟨(some 43), .call f_table_times [(.t 42)], (some (31, true))⟩,
    ⟨(some 44), .pick (.t 31) (.t 43) (.k (.bool false)), none⟩,
    ⟨(some 45), .mv (.t 44), none⟩,
    ⟨(some 46), .fa (.t 1) 121, (some (45, true))⟩,
    ⟨(some 47), .slA (.t 46) 8 1, (some (45, true))⟩,
    ⟨(some 48), .call f_table_within [(.k (.int .i64 2)), (.t 47)], (some (45, true))⟩,
    ⟨(some 49), .pick (.t 45) (.t 48) (.k (.bool false)), none⟩,
    ⟨(some 50), .mv (.t 49), none⟩,
    ⟨(some 51), .fa (.t 1) 129, (some (50, true))⟩,
    ⟨(some 52), .ld (.t 51) none, (some (50, true))⟩,
    ⟨(some 53), .fa (.t 1) 130, (some (50, true))⟩,
    ⟨(some 54), .ld (.t 53) none, (some (50, true))⟩,
    ⟨(some 55), .bsl e_int 1 [(.t 52), (.t 54)], (some (50, true))⟩,
    ⟨(some 56), .call f_table_within [(.k (.int .i64 2147483647)), (.t 55)], (some (50, true))⟩,
    ⟨(some 57), .pick (.t 50) (.t 56) (.k (.bool false)), none⟩,
    ⟨(some 2), .mv (.t 57), none⟩])
  (.ret))⟩
def cc_table_every_api_Phase (f_table_every_api_Phase_1 f_slices_ContainsFunc_api_Phase_api_Phase : Nat) : CFn := ⟨17, [.tmp 6],
  .seq (.reg [
    ⟨(some 5), .box (.t 2), none⟩,
    ⟨(some 6), .mv (.k (.bool false)), none⟩])
  (.seq (.reg [
    ⟨(some 7), .mv (.t 0), none⟩,
    ⟨(some 8), .lenS (.t 7), none⟩,
    ⟨(some 9), .mv (.t 1), none⟩,
    ⟨(some 10), .bin .leq (.t 8) (.t 9), none⟩,
    ⟨(some 11), .mv (.t 10), none⟩,
    ⟨(some 12), .mv (.t 0), (some (11, true))⟩,
    ⟨(some 13), .mkf (.func f_table_every_api_Phase_1) [] [(.t 5)], (some (11, true))⟩,
    ⟨(some 14), .call f_slices_ContainsFunc_api_Phase_api_Phase [(.t 12), (.t 13)], (some (11, true))⟩,
    ⟨(some 15), .un .not (.t 14), (some (11, true))⟩,
    ⟨(some 16), .pick (.t 11) (.t 15) (.k (.bool false)), none⟩,
    ⟨(some 6), .mv (.t 16), none⟩])
  (.ret))⟩
def cc_table_phase (e_int f_table_times f_table_within : Nat) : CFn := ⟨29, [.tmp 2],
  .seq (.reg [
    ⟨(some 1), .box (.t 0), none⟩,
    ⟨(some 2), .mv (.k (.bool false)), none⟩])
  (.seq (.reg [
    ⟨(some 3), .fa (.t 1) 1, none⟩,
    ⟨(some 4), .ld (.t 3) none, none⟩,
    ⟨(some 5), .fa (.t 1) 2, none⟩,
    ⟨(some 6), .ld (.t 5) none, none⟩,
    ⟨(some 7), .fa (.t 1) 3, none⟩,
    ⟨(some 8), .ld (.t 7) none, none⟩,
    ⟨(some 9), .fa (.t 1) 4, none⟩,
    ⟨(some 10), .ld (.t 9) none, none⟩,
    ⟨(some 11), .fa (.t 1) 5, none⟩,
    ⟨(some 12), .ld (.t 11) none, none⟩,
    ⟨(some 13), .fa (.t 1) 6, none⟩,
    ⟨(some 14), .ld (.t 13) none, none⟩,
    ⟨(some 15), .fa (.t 1) 7, none⟩,
    ⟨(some 16), .ld (.t 15) none, none⟩,
    ⟨(some 17), .fa (.t 1) 8, none⟩,
    ⟨(some 18), .ld (.t 17) none, none⟩,
    ⟨(some 19), .fa (.t 1) 9, none⟩,
    ⟨(some 20), .ld (.t 19) none, none⟩,
    ⟨(some 21), .bsl e_int 1 [(.t 4), (.t 6), (.t 8), (.t 10), (.t 12), (.t 14), (.t 16), (.t 18), (.t 20)], none⟩,
    ⟨(some 22), .call f_table_times [(.t 21)], none⟩,
    ⟨(some 23), .mv (.t 22), none⟩,
    ⟨(some 24), .fa (.t 1) 10, (some (23, true))⟩,
    ⟨(some 25), .ld (.t 24) none, (some (23, true))⟩,
    ⟨(some 26), .bsl e_int 1 [(.t 25)], (some (23, true))⟩,
    ⟨(some 27), .call f_table_within [(.k (.int .i64 3)), (.t 26)], (some (23, true))⟩,
    ⟨(some 28), .pick (.t 23) (.t 27) (.k (.bool false)), none⟩,
    ⟨(some 2), .mv (.t 28), none⟩])
  (.ret))⟩
def cc_table_every_2_int (f_table_every_2_int_1 f_slices_ContainsFunc_2_int_2_int : Nat) : CFn := ⟨17, [.tmp 6],
  .seq (.reg [
    ⟨(some 5), .box (.t 2), none⟩,
    ⟨(some 6), .mv (.k (.bool false)), none⟩])
  (.seq (.reg [
    ⟨(some 7), .mv (.t 0), none⟩,
    ⟨(some 8), .lenS (.t 7), none⟩,
    ⟨(some 9), .mv (.t 1), none⟩,
    ⟨(some 10), .bin .leq (.t 8) (.t 9), none⟩,
    ⟨(some 11), .mv (.t 10), none⟩,
    ⟨(some 12), .mv (.t 0), (some (11, true))⟩,
    ⟨(some 13), .mkf (.func f_table_every_2_int_1) [] [(.t 5)], (some (11, true))⟩,
    ⟨(some 14), .call f_slices_ContainsFunc_2_int_2_int [(.t 12), (.t 13)], (some (11, true))⟩,
    ⟨(some 15), .un .not (.t 14), (some (11, true))⟩,
    ⟨(some 16), .pick (.t 11) (.t 15) (.k (.bool false)), none⟩,
    ⟨(some 6), .mv (.t 16), none⟩])
  (.ret))⟩
def cc_table_group (f_table_group_1 : Nat) : CFn := ⟨14, [.tmp 2],
  .seq (.reg [
    ⟨(some 1), .box (.t 0), none⟩,
    ⟨(some 2), .mv (.k (.bool false)), none⟩])
  (.seq (.reg [
    ⟨(some 3), .mv (.k (.fn (.func f_table_group_1) [] [])), none⟩])
  (.seq (.reg [
    ⟨(some 4), .mv (.t 3), none⟩,
    ⟨(some 5), .iaA (.t 1) (.k (.int .i64 0)) 2 1, none⟩,
    ⟨(some 6), .ld (.t 5) none, none⟩,
    ⟨(some 7), .callv (.t 4) [(.t 6)], none⟩,
    ⟨(some 8), .mv (.t 7), none⟩,
    ⟨(some 9), .mv (.t 3), (some (8, true))⟩,
    ⟨(some 10), .iaA (.t 1) (.k (.int .i64 1)) 2 1, (some (8, true))⟩,
    ⟨(some 11), .ld (.t 10) none, (some (8, true))⟩,
    ⟨(some 12), .callv (.t 9) [(.t 11)], (some (8, true))⟩,
    ⟨(some 13), .pick (.t 8) (.t 12) (.k (.bool false)), none⟩,
    ⟨(some 2), .mv (.t 13), none⟩])
  (.ret)))⟩
def cc_table_within (f_table_within_1 f_table_every_int : Nat) : CFn := ⟨10, [.tmp 4],
  .seq (.reg [
    ⟨(some 2), .box (.t 0), none⟩,
    ⟨(some 4), .mv (.k (.bool false)), none⟩])
  (.seq (.reg [
    ⟨(some 5), .mv (.t 1), none⟩,
    ⟨(some 6), .mv (.t 1), none⟩,
    ⟨(some 7), .lenS (.t 6), none⟩,
    ⟨(some 8), .mkf (.func f_table_within_1) [] [(.t 2)], none⟩,
    ⟨(some 9), .call f_table_every_int [(.t 5), (.t 7), (.t 8)], none⟩,
    ⟨(some 4), .mv (.t 9), none⟩])
  (.ret))⟩
def cc_table_every_api_Detector (f_table_every_api_Detector_1 f_slices_ContainsFunc_api_Detector_api_Detector : Nat) : CFn := ⟨17, [.tmp 6],
  .seq (.reg [
    ⟨(some 5), .box (.t 2), none⟩,
    ⟨(some 6), .mv (.k (.bool false)), none⟩])
  (.seq (.reg [
    ⟨(some 7), .mv (.t 0), none⟩,
    ⟨(some 8), .lenS (.t 7), none⟩,
    ⟨(some 9), .mv (.t 1), none⟩,
    ⟨(some 10), .bin .leq (.t 8) (.t 9), none⟩,
    ⟨(some 11), .mv (.t 10), none⟩,
    ⟨(some 12), .mv (.t 0), (some (11, true))⟩,
    ⟨(some 13), .mkf (.func f_table_every_api_Detector_1) [] [(.t 5)], (some (11, true))⟩,
    ⟨(some 14), .call f_slices_ContainsFunc_api_Detector_api_Detector [(.t 12), (.t 13)], (some (11, true))⟩,
    ⟨(some 15), .un .not (.t 14), (some (11, true))⟩,
    ⟨(some 16), .pick (.t 11) (.t 15) (.k (.bool false)), none⟩,
    ⟨(some 6), .mv (.t 16), none⟩])
  (.ret))⟩
def cc_table_detector (f_table_detector_1 e_int f_table_within f_table_seconds f_table_times : Nat) : CFn := ⟨38, [.tmp 2],
  .seq (.reg [
    ⟨(some 1), .box (.t 0), none⟩,
    ⟨(some 2), .mv (.k (.bool false)), none⟩])
  (.seq (.reg [
    ⟨(some 3), .mv (.k (.fn (.func f_table_detector_1) [] [])), none⟩])
  (.seq (.reg [
    ⟨(some 4), .fa (.t 1) 0, none⟩,
    ⟨(some 5), .ld (.t 4) none, none⟩,
    ⟨(some 6), .bsl e_int 1 [(.t 5)], none⟩,
    ⟨(some 7), .call f_table_within [(.k (.int .i64 7)), (.t 6)], none⟩,
    ⟨(some 8), .mv (.t 7), none⟩,
    ⟨(some 9), .mv (.t 3), (some (8, true))⟩,
    ⟨(some 10), .fa (.t 1) 1, (some (8, true))⟩,
    ⟨(some 11), .ld (.t 10) none, (some (8, true))⟩,
    ⟨(some 12), .callv (.t 9) [(.t 11)], (some (8, true))⟩,
    ⟨(some 13), .pick (.t 8) (.t 12) (.k (.bool false)), none⟩,
    ⟨(some 14), .mv (.t 13), none⟩,
    ⟨(some 15), .mv (.t 3), (some (14, true))⟩,
    ⟨(some 16), .fa (.t 1) 2, (some (14, true))⟩,
    ⟨(some 17), .ld (.t 16) none, (some (14, true))⟩,
    ⟨(some 18), .callv (.t 15) [(.t 17)], (some (14, true))⟩,
    ⟨(some 19), .pick (.t 14) (.t 18) (.k (.bool false)), none⟩,
    ⟨(some 20), .mv (.t 19), none⟩,
    ⟨(some 21), .fa (.t 1) 3, (some (20, true))⟩,
    ⟨(some 22), .ld (.t 21) none, (some (20, true))⟩,
    ⟨(some 23), .call f_table_seconds [(.t 22)], (some (20, true))⟩,
    ⟨(some 24), .pick (.t 20) (.t 23) (.k (.bool false)), none⟩,
    ⟨(some 25), .mv (.t 24), none⟩,
    ⟨(some 26), .fa (.t 1) 4, (some (25, true))⟩,
    ⟨(some 27), .ld (.t 26) none, (some (25, true))⟩,
    ⟨(some 28), .call f_table_seconds [(.t 27)], (some (25, true))⟩,
    ⟨(some 29), .pick (.t 25) (.t 28) (.k (.bool false)), none⟩,
    ⟨(some 30), .mv (.t 29), none⟩,
    ⟨(some 31), .fa (.t 1) 5, (some (30, true))⟩,
    ⟨(some 32), .ld (.t 31) none, (some (30, true))⟩,
    ⟨(some 33), .fa (.t 1) 6, (some (30, true))⟩,
    ⟨(some 34), .ld (.t 33) none, (some (30, true))⟩,
    ⟨(some 35), .bsl e_int 1 [(.t 32), (.t 34)], (some (30, true))⟩,
    ⟨(some 36), .call f_table_times [(.t 35)], (some (30, true))⟩,
    ⟨(some 37), .pick (.t 30) (.t 36) (.k (.bool false)), none⟩,
    ⟨(some 2), .mv (.t 37), none⟩])
  (.ret)))⟩
def cc_table_every_api_Rail (f_table_every_api_Rail_1 f_slices_ContainsFunc_api_Rail_api_Rail : Nat) : CFn := ⟨17, [.tmp 6],
  .seq (.reg [
    ⟨(some 5), .box (.t 2), none⟩,
    ⟨(some 6), .mv (.k (.bool false)), none⟩])
  (.seq (.reg [
    ⟨(some 7), .mv (.t 0), none⟩,
    ⟨(some 8), .lenS (.t 7), none⟩,
    ⟨(some 9), .mv (.t 1), none⟩,
    ⟨(some 10), .bin .leq (.t 8) (.t 9), none⟩,
    ⟨(some 11), .mv (.t 10), none⟩,
    ⟨(some 12), .mv (.t 0), (some (11, true))⟩,
    ⟨(some 13), .mkf (.func f_table_every_api_Rail_1) [] [(.t 5)], (some (11, true))⟩,
    ⟨(some 14), .call f_slices_ContainsFunc_api_Rail_api_Rail [(.t 12), (.t 13)], (some (11, true))⟩,
    ⟨(some 15), .un .not (.t 14), (some (11, true))⟩,
    ⟨(some 16), .pick (.t 11) (.t 15) (.k (.bool false)), none⟩,
    ⟨(some 6), .mv (.t 16), none⟩])
  (.ret))⟩
def cc_table_rail (e_int f_table_within f_table_times : Nat) : CFn := ⟨35, [.tmp 2],
  .seq (.reg [
    ⟨(some 1), .box (.t 0), none⟩,
    ⟨(some 2), .mv (.k (.bool false)), none⟩])
  (.seq (.reg [
    ⟨(some 3), .fa (.t 1) 0, none⟩,
    ⟨(some 4), .ld (.t 3) none, none⟩,
    ⟨(some 5), .fa (.t 1) 1, none⟩,
    ⟨(some 6), .ld (.t 5) none, none⟩,
    ⟨(some 7), .fa (.t 1) 2, none⟩,
    ⟨(some 8), .ld (.t 7) none, none⟩,
    ⟨(some 9), .fa (.t 1) 3, none⟩,
    ⟨(some 10), .ld (.t 9) none, none⟩,
    ⟨(some 11), .bsl e_int 1 [(.t 4), (.t 6), (.t 8), (.t 10)], none⟩,
    ⟨(some 12), .call f_table_within [(.k (.int .i64 255)), (.t 11)], none⟩,
    ⟨(some 13), .mv (.t 12), none⟩,
    ⟨(some 14), .fa (.t 1) 4, (some (13, true))⟩,
    ⟨(some 15), .ld (.t 14) none, (some (13, true))⟩,
    ⟨(some 16), .fa (.t 1) 5, (some (13, true))⟩,
    ⟨(some 17), .ld (.t 16) none, (some (13, true))⟩,
    ⟨(some 18), .fa (.t 1) 6, (some (13, true))⟩,
    ⟨(some 19), .ld (.t 18) none, (some (13, true))⟩,
    ⟨(some 20), .fa (.t 1) 7, (some (13, true))⟩,
    ⟨(some 21), .ld (.t 20) none, (some (13, true))⟩,
    ⟨(some 22), .fa (.t 1) 8, (some (13, true))⟩,
    ⟨(some 23), .ld (.t 22) none, (some (13, true))⟩,
    ⟨(some 24), .fa (.t 1) 9, (some (13, true))⟩,
    ⟨(some 25), .ld (.t 24) none, (some (13, true))⟩,
    ⟨(some 26), .bsl e_int 1 [(.t 15), (.t 17), (.t 19), (.t 21), (.t 23), (.t 25)], (some (13, true))⟩,
    ⟨(some 27), .call f_table_times [(.t 26)], (some (13, true))⟩,
    ⟨(some 28), .pick (.t 13) (.t 27) (.k (.bool false)), none⟩,
    ⟨(some 29), .mv (.t 28), none⟩,
    ⟨(some 30), .fa (.t 1) 10, (some (29, true))⟩,
    ⟨(some 31), .ld (.t 30) none, (some (29, true))⟩,
    ⟨(some 32), .bsl e_int 1 [(.t 31)], (some (29, true))⟩,
    ⟨(some 33), .call f_table_within [(.k (.int .i64 2147483647)), (.t 32)], (some (29, true))⟩,
    ⟨(some 34), .pick (.t 29) (.t 33) (.k (.bool false)), none⟩,
    ⟨(some 2), .mv (.t 34), none⟩])
  (.ret))⟩
def cc_table_every_api_Bus (f_table_every_api_Bus_1 f_slices_ContainsFunc_api_Bus_api_Bus : Nat) : CFn := ⟨17, [.tmp 6],
  .seq (.reg [
    ⟨(some 5), .box (.t 2), none⟩,
    ⟨(some 6), .mv (.k (.bool false)), none⟩])
  (.seq (.reg [
    ⟨(some 7), .mv (.t 0), none⟩,
    ⟨(some 8), .lenS (.t 7), none⟩,
    ⟨(some 9), .mv (.t 1), none⟩,
    ⟨(some 10), .bin .leq (.t 8) (.t 9), none⟩,
    ⟨(some 11), .mv (.t 10), none⟩,
    ⟨(some 12), .mv (.t 0), (some (11, true))⟩,
    ⟨(some 13), .mkf (.func f_table_every_api_Bus_1) [] [(.t 5)], (some (11, true))⟩,
    ⟨(some 14), .call f_slices_ContainsFunc_api_Bus_api_Bus [(.t 12), (.t 13)], (some (11, true))⟩,
    ⟨(some 15), .un .not (.t 14), (some (11, true))⟩,
    ⟨(some 16), .pick (.t 11) (.t 15) (.k (.bool false)), none⟩,
    ⟨(some 6), .mv (.t 16), none⟩])
  (.ret))⟩
def cc_table_bus (e_int f_table_within f_table_times : Nat) : CFn := ⟨13, [.tmp 2],
  .seq (.reg [
    ⟨(some 1), .box (.t 0), none⟩,
    ⟨(some 2), .mv (.k (.bool false)), none⟩])
  (.seq (.reg [
    ⟨(some 3), .fa (.t 1) 0, none⟩,
    ⟨(some 4), .ld (.t 3) none, none⟩,
    ⟨(some 5), .bsl e_int 1 [(.t 4)], none⟩,
    ⟨(some 6), .call f_table_within [(.k (.int .i64 255)), (.t 5)], none⟩,
    ⟨(some 7), .mv (.t 6), none⟩,
    ⟨(some 8), .fa (.t 1) 1, (some (7, true))⟩,
    ⟨(some 9), .ld (.t 8) none, (some (7, true))⟩,
    ⟨(some 10), .bsl e_int 1 [(.t 9)], (some (7, true))⟩,
    ⟨(some 11), .call f_table_times [(.t 10)], (some (7, true))⟩,
    ⟨(some 12), .pick (.t 7) (.t 11) (.k (.bool false)), none⟩,
    ⟨(some 2), .mv (.t 12), none⟩])
  (.ret))⟩
def cc_table_times (f_table_within : Nat) : CFn := ⟨5, [.tmp 2],
  .seq (.reg [
    ⟨(some 2), .mv (.k (.bool false)), none⟩])
  (.seq (.reg [
    ⟨(some 3), .mv (.t 0), none⟩,
    ⟨(some 4), .call f_table_within [(.k (.int .i64 9999)), (.t 3)], none⟩,
    ⟨(some 2), .mv (.t 4), none⟩])
  (.ret))⟩
def cc_slices_ContainsFunc_api_Phase_api_Phase (f_slices_IndexFunc_api_Phase_api_Phase : Nat) : CFn := ⟨9, [.tmp 4],
  .seq (.reg [
    ⟨(some 4), .mv (.k (.bool false)), none⟩])
  (.seq (.reg [
    ⟨(some 5), .mv (.t 0), none⟩,
    ⟨(some 6), .mv (.t 1), none⟩,
    ⟨(some 7), .call f_slices_IndexFunc_api_Phase_api_Phase [(.t 5), (.t 6)], none⟩,
    ⟨(some 8), .bin .geq (.t 7) (.k (.int .i64 0)), none⟩,
    ⟨(some 4), .mv (.t 8), none⟩])
  (.ret))⟩
def cc_table_every_api_Phase_1 : CFn := ⟨8, [.tmp 3],
  .seq (.reg [
    ⟨(some 2), .box (.t 0), none⟩,
    ⟨(some 3), .mv (.k (.bool false)), none⟩])
  (.seq (.reg [
    ⟨(some 4), .ld (.t 1) none, none⟩,
    ⟨(some 5), .ld (.t 2) (some 13), none⟩,
    ⟨(some 6), .callv (.t 4) [(.t 5)], none⟩,
    ⟨(some 7), .un .not (.t 6), none⟩,
    ⟨(some 3), .mv (.t 7), none⟩])
  (.ret))⟩
def cc_slices_ContainsFunc_2_int_2_int (f_slices_IndexFunc_2_int_2_int : Nat) : CFn := ⟨9, [.tmp 4],
  .seq (.reg [
    ⟨(some 4), .mv (.k (.bool false)), none⟩])
  (.seq (.reg [
    ⟨(some 5), .mv (.t 0), none⟩,
    ⟨(some 6), .mv (.t 1), none⟩,
    ⟨(some 7), .call f_slices_IndexFunc_2_int_2_int [(.t 5), (.t 6)], none⟩,
    ⟨(some 8), .bin .geq (.t 7) (.k (.int .i64 0)), none⟩,
    ⟨(some 4), .mv (.t 8), none⟩])
  (.ret))⟩
def cc_table_every_2_int_1 : CFn := ⟨8, [.tmp 3],
  .seq (.reg [
    ⟨(some 2), .box (.t 0), none⟩,
    ⟨(some 3), .mv (.k (.bool false)), none⟩])
  (.seq (.reg [
    ⟨(some 4), .ld (.t 1) none, none⟩,
    ⟨(some 5), .ld (.t 2) (some 2), none⟩,
    ⟨(some 6), .callv (.t 4) [(.t 5)], none⟩,
    ⟨(some 7), .un .not (.t 6), none⟩,
    ⟨(some 3), .mv (.t 7), none⟩])
  (.ret))⟩
def cc_table_group_1 (f_table_every_int f_table_group_1_1 : Nat) : CFn := ⟨5, [.tmp 2],
  .seq (.reg [
    ⟨(some 2), .mv (.k (.bool false)), none⟩])
  (.seq (.reg [
    ⟨(some 3), .mv (.t 0), none⟩,
    ⟨(some 4), .call f_table_every_int [(.t 3), (.k (.int .i64 8)), (.k (.fn (.func f_table_group_1_1) [] []))], none⟩,
    ⟨(some 2), .mv (.t 4), none⟩])
  (.ret))⟩
def cc_table_every_int (f_table_every_int_1 f_slices_ContainsFunc_int_int : Nat) : CFn := ⟨17, [.tmp 6],
  .seq (.reg [
    ⟨(some 5), .box (.t 2), none⟩,
    ⟨(some 6), .mv (.k (.bool false)), none⟩])
  (.seq (.reg [
    ⟨(some 7), .mv (.t 0), none⟩,
    ⟨(some 8), .lenS (.t 7), none⟩,
    ⟨(some 9), .mv (.t 1), none⟩,
    ⟨(some 10), .bin .leq (.t 8) (.t 9), none⟩,
    ⟨(some 11), .mv (.t 10), none⟩,
    ⟨(some 12), .mv (.t 0), (some (11, true))⟩,
    ⟨(some 13), .mkf (.func f_table_every_int_1) [] [(.t 5)], (some (11, true))⟩,
    ⟨(some 14), .call f_slices_ContainsFunc_int_int [(.t 12), (.t 13)], (some (11, true))⟩,
    ⟨(some 15), .un .not (.t 14), (some (11, true))⟩,
    ⟨(some 16), .pick (.t 11) (.t 15) (.k (.bool false)), none⟩,
    ⟨(some 6), .mv (.t 16), none⟩])
  (.ret))⟩
def cc_table_group_1_1 (e_int f_table_within : Nat) : CFn := ⟨6, [.tmp 2],
  .seq (.reg [
    ⟨(some 2), .mv (.k (.bool false)), none⟩])
  (.seq (.reg [
    ⟨(some 3), .mv (.t 0), none⟩,
    ⟨(some 4), .bsl e_int 1 [(.t 3)], none⟩,
    ⟨(some 5), .call f_table_within [(.k (.int .i64 7)), (.t 4)], none⟩,
    ⟨(some 2), .mv (.t 5), none⟩])
  (.ret))⟩
def cc_table_within_1 : CFn := ⟨11, [.tmp 3],
  .seq (.reg [
    ⟨(some 3), .mv (.k (.bool false)), none⟩])
  (.seq (.reg [
    ⟨(some 4), .mv (.t 0), none⟩,
    ⟨(some 5), .bin .geq (.t 4) (.k (.int .i64 0)), none⟩,
    ⟨(some 6), .mv (.t 5), none⟩,
    ⟨(some 7), .mv (.t 0), (some (6, true))⟩,
    ⟨(some 8), .ld (.t 1) none, (some (6, true))⟩,
    ⟨(some 9), .bin .leq (.t 7) (.t 8), (some (6, true))⟩,
    ⟨(some 10), .pick (.t 6) (.t 9) (.k (.bool false)), none⟩,
    ⟨(some 3), .mv (.t 10), none⟩])
  (.ret))⟩
def cc_slices_ContainsFunc_api_Detector_api_Detector (f_slices_IndexFunc_api_Detector_api_Detector : Nat) : CFn := ⟨9, [.tmp 4],
  .seq (.reg [
    ⟨(some 4), .mv (.k (.bool false)), none⟩])
  (.seq (.reg [
    ⟨(some 5), .mv (.t 0), none⟩,
    ⟨(some 6), .mv (.t 1), none⟩,
    ⟨(some 7), .call f_slices_IndexFunc_api_Detector_api_Detector [(.t 5), (.t 6)], none⟩,
    ⟨(some 8), .bin .geq (.t 7) (.k (.int .i64 0)), none⟩,
    ⟨(some 4), .mv (.t 8), none⟩])
  (.ret))⟩
def cc_table_every_api_Detector_1 : CFn := ⟨8, [.tmp 3],
  .seq (.reg [
    ⟨(some 2), .box (.t 0), none⟩,
    ⟨(some 3), .mv (.k (.bool false)), none⟩])
  (.seq (.reg [
    ⟨(some 4), .ld (.t 1) none, none⟩,
    ⟨(some 5), .ld (.t 2) (some 7), none⟩,
    ⟨(some 6), .callv (.t 4) [(.t 5)], none⟩,
    ⟨(some 7), .un .not (.t 6), none⟩,
    ⟨(some 3), .mv (.t 7), none⟩])
  (.ret))⟩
def cc_table_detector_1 : CFn := ⟨9, [.tmp 2],
  .seq (.reg [
    ⟨(some 2), .mv (.k (.bool false)), none⟩])
  (.seq (.reg [
    ⟨(some 3), .mv (.t 0), none⟩,
    ⟨(some 4), .bin .gtr (.t 3) (.k (.float .f64 0)), none⟩,
    ⟨(some 5), .mv (.t 4), none⟩,
    ⟨(some 6), .mv (.t 0), (some (5, true))⟩,
    ⟨(some 7), .bin .leq (.t 6) (.k (.float .f64 4696837146684686336)), (some (5, true))⟩,
    ⟨(some 8), .pick (.t 5) (.t 7) (.k (.bool false)), none⟩,
    ⟨(some 2), .mv (.t 8), none⟩])
  (.ret))⟩
def cc_table_seconds (f_secs_Ticks f_math_Signbit : Nat) : CFn := ⟨16, [.tmp 2],
  .seq (.reg [
    ⟨(some 2), .mv (.k (.bool false)), none⟩])
  (.seq (.reg [
    ⟨(some 6), .mv (.t 0), none⟩,
    ⟨(some 7), .call f_secs_Ticks [(.t 6)], none⟩,
    ⟨(some 5), .mv (.t 7), none⟩,
    ⟨(some 8), .ext (.t 5) 0, none⟩,
    ⟨(some 9), .ext (.t 5) 1, none⟩,
    ⟨(some 3), .mv (.t 8), none⟩,
    ⟨(some 4), .mv (.t 9), none⟩])
  (.seq (.reg [
    ⟨(some 10), .mv (.t 4), none⟩,
    ⟨(some 11), .mv (.t 10), none⟩,
    ⟨(some 12), .mv (.t 0), (some (11, true))⟩,
    ⟨(some 13), .call f_math_Signbit [(.t 12)], (some (11, true))⟩,
    ⟨(some 14), .un .not (.t 13), (some (11, true))⟩,
    ⟨(some 15), .pick (.t 11) (.t 14) (.k (.bool false)), none⟩,
    ⟨(some 2), .mv (.t 15), none⟩])
  (.ret)))⟩
def cc_slices_ContainsFunc_api_Rail_api_Rail (f_slices_IndexFunc_api_Rail_api_Rail : Nat) : CFn := ⟨9, [.tmp 4],
  .seq (.reg [
    ⟨(some 4), .mv (.k (.bool false)), none⟩])
  (.seq (.reg [
    ⟨(some 5), .mv (.t 0), none⟩,
    ⟨(some 6), .mv (.t 1), none⟩,
    ⟨(some 7), .call f_slices_IndexFunc_api_Rail_api_Rail [(.t 5), (.t 6)], none⟩,
    ⟨(some 8), .bin .geq (.t 7) (.k (.int .i64 0)), none⟩,
    ⟨(some 4), .mv (.t 8), none⟩])
  (.ret))⟩
def cc_table_every_api_Rail_1 : CFn := ⟨8, [.tmp 3],
  .seq (.reg [
    ⟨(some 2), .box (.t 0), none⟩,
    ⟨(some 3), .mv (.k (.bool false)), none⟩])
  (.seq (.reg [
    ⟨(some 4), .ld (.t 1) none, none⟩,
    ⟨(some 5), .ld (.t 2) (some 11), none⟩,
    ⟨(some 6), .callv (.t 4) [(.t 5)], none⟩,
    ⟨(some 7), .un .not (.t 6), none⟩,
    ⟨(some 3), .mv (.t 7), none⟩])
  (.ret))⟩
def cc_slices_ContainsFunc_api_Bus_api_Bus (f_slices_IndexFunc_api_Bus_api_Bus : Nat) : CFn := ⟨9, [.tmp 4],
  .seq (.reg [
    ⟨(some 4), .mv (.k (.bool false)), none⟩])
  (.seq (.reg [
    ⟨(some 5), .mv (.t 0), none⟩,
    ⟨(some 6), .mv (.t 1), none⟩,
    ⟨(some 7), .call f_slices_IndexFunc_api_Bus_api_Bus [(.t 5), (.t 6)], none⟩,
    ⟨(some 8), .bin .geq (.t 7) (.k (.int .i64 0)), none⟩,
    ⟨(some 4), .mv (.t 8), none⟩])
  (.ret))⟩
def cc_table_every_api_Bus_1 : CFn := ⟨8, [.tmp 3],
  .seq (.reg [
    ⟨(some 2), .box (.t 0), none⟩,
    ⟨(some 3), .mv (.k (.bool false)), none⟩])
  (.seq (.reg [
    ⟨(some 4), .ld (.t 1) none, none⟩,
    ⟨(some 5), .ld (.t 2) (some 2), none⟩,
    ⟨(some 6), .callv (.t 4) [(.t 5)], none⟩,
    ⟨(some 7), .un .not (.t 6), none⟩,
    ⟨(some 3), .mv (.t 7), none⟩])
  (.ret))⟩
def cc_slices_IndexFunc_api_Phase_api_Phase : CFn := ⟨19, [.tmp 4],
  .seq (.reg [
    ⟨(some 4), .mv (.k (.int .i64 0)), none⟩])
  (.join (.seq (.reg [
     ⟨(some 6), .mv (.t 0), none⟩,
     ⟨(some 7), .lenS (.t 6), none⟩,
     ⟨(some 8), .mv (.k (.int .i64 0)), none⟩])
   (.block 0 (.loop (.seq (.reg [
       ⟨(some 9), .bin .lss (.t 8) (.t 7), none⟩])
     (.join (.cond (.t 9) (.skip)
       (.exit 0))
     (.join (.block 1 (.seq (.reg [
         ⟨(some 10), .mv (.t 8), none⟩,
         ⟨(some 5), .mv (.t 10), none⟩])
       (.seq (.reg [
         ⟨(some 11), .mv (.t 1), none⟩,
         ⟨(some 12), .mv (.t 0), none⟩,
         ⟨(some 13), .mv (.t 5), none⟩,
         ⟨(some 14), .iaS (.t 12) (.t 13) 13, none⟩,
         ⟨(some 15), .ld (.t 14) (some 13), none⟩,
         ⟨(some 16), .callv (.t 11) [(.t 15)], none⟩])
       (.cond (.t 16) (.seq (.reg [
          ⟨(some 17), .mv (.t 5), none⟩,
          ⟨(some 4), .mv (.t 17), none⟩])
        (.ret))
        (.skip)))))
     (.reg [
       ⟨(some 18), .bin .add (.t 8) (.k (.int .i64 1)), none⟩,
       ⟨(some 8), .mv (.t 18), none⟩])))))))
  (.seq (.reg [
    ⟨(some 4), .mv (.k (.int .i64 (-1))), none⟩])
  (.ret)))⟩
def cc_slices_IndexFunc_2_int_2_int : CFn := ⟨19, [.tmp 4],
  .seq (.reg [
    ⟨(some 4), .mv (.k (.int .i64 0)), none⟩])
  (.join (.seq (.reg [
     ⟨(some 6), .mv (.t 0), none⟩,
     ⟨(some 7), .lenS (.t 6), none⟩,
     ⟨(some 8), .mv (.k (.int .i64 0)), none⟩])
   (.block 0 (.loop (.seq (.reg [
       ⟨(some 9), .bin .lss (.t 8) (.t 7), none⟩])
     (.join (.cond (.t 9) (.skip)
       (.exit 0))
     (.join (.block 1 (.seq (.reg [
         ⟨(some 10), .mv (.t 8), none⟩,
         ⟨(some 5), .mv (.t 10), none⟩])
       (.seq (.reg [
         ⟨(some 11), .mv (.t 1), none⟩,
         ⟨(some 12), .mv (.t 0), none⟩,
         ⟨(some 13), .mv (.t 5), none⟩,
         ⟨(some 14), .iaS (.t 12) (.t 13) 2, none⟩,
         ⟨(some 15), .ld (.t 14) (some 2), none⟩,
         ⟨(some 16), .callv (.t 11) [(.t 15)], none⟩])
       (.cond (.t 16) (.seq (.reg [
          ⟨(some 17), .mv (.t 5), none⟩,
          ⟨(some 4), .mv (.t 17), none⟩])
        (.ret))
        (.skip)))))
     (.reg [
       ⟨(some 18), .bin .add (.t 8) (.k (.int .i64 1)), none⟩,
       ⟨(some 8), .mv (.t 18), none⟩])))))))
  (.seq (.reg [
    ⟨(some 4), .mv (.k (.int .i64 (-1))), none⟩])
  (.ret)))⟩
def cc_slices_ContainsFunc_int_int (f_slices_IndexFunc_int_int : Nat) : CFn := ⟨9, [.tmp 4],
  .seq (.reg [
    ⟨(some 4), .mv (.k (.bool false)), none⟩])
  (.seq (.reg [
    ⟨(some 5), .mv (.t 0), none⟩,
    ⟨(some 6), .mv (.t 1), none⟩,
    ⟨(some 7), .call f_slices_IndexFunc_int_int [(.t 5), (.t 6)], none⟩,
    ⟨(some 8), .bin .geq (.t 7) (.k (.int .i64 0)), none⟩,
    ⟨(some 4), .mv (.t 8), none⟩])
  (.ret))⟩
def cc_table_every_int_1 : CFn := ⟨8, [.tmp 3],
  .seq (.reg [
    ⟨(some 3), .mv (.k (.bool false)), none⟩])
  (.seq (.reg [
    ⟨(some 4), .ld (.t 1) none, none⟩,
    ⟨(some 5), .mv (.t 0), none⟩,
    ⟨(some 6), .callv (.t 4) [(.t 5)], none⟩,
    ⟨(some 7), .un .not (.t 6), none⟩,
    ⟨(some 3), .mv (.t 7), none⟩])
  (.ret))⟩
def cc_slices_IndexFunc_api_Detector_api_Detector : CFn := ⟨19, [.tmp 4],
  .seq (.reg [
    ⟨(some 4), .mv (.k (.int .i64 0)), none⟩])
  (.join (.seq (.reg [
     ⟨(some 6), .mv (.t 0), none⟩,
     ⟨(some 7), .lenS (.t 6), none⟩,
     ⟨(some 8), .mv (.k (.int .i64 0)), none⟩])
   (.block 0 (.loop (.seq (.reg [
       ⟨(some 9), .bin .lss (.t 8) (.t 7), none⟩])
     (.join (.cond (.t 9) (.skip)
       (.exit 0))
     (.join (.block 1 (.seq (.reg [
         ⟨(some 10), .mv (.t 8), none⟩,
         ⟨(some 5), .mv (.t 10), none⟩])
       (.seq (.reg [
         ⟨(some 11), .mv (.t 1), none⟩,
         ⟨(some 12), .mv (.t 0), none⟩,
         ⟨(some 13), .mv (.t 5), none⟩,
         ⟨(some 14), .iaS (.t 12) (.t 13) 7, none⟩,
         ⟨(some 15), .ld (.t 14) (some 7), none⟩,
         ⟨(some 16), .callv (.t 11) [(.t 15)], none⟩])
       (.cond (.t 16) (.seq (.reg [
          ⟨(some 17), .mv (.t 5), none⟩,
          ⟨(some 4), .mv (.t 17), none⟩])
        (.ret))
        (.skip)))))
     (.reg [
       ⟨(some 18), .bin .add (.t 8) (.k (.int .i64 1)), none⟩,
       ⟨(some 8), .mv (.t 18), none⟩])))))))
  (.seq (.reg [
    ⟨(some 4), .mv (.k (.int .i64 (-1))), none⟩])
  (.ret)))⟩
def cc_math_Signbit : CFn := ⟨7, [.tmp 2],
  .seq (.reg [
    ⟨(some 2), .mv (.k (.bool false)), none⟩])
  (.seq (.reg [
    ⟨(some 3), .mv (.t 0), none⟩,
    ⟨(some 4), .xt .fbits (.t 3), none⟩,
    ⟨(some 5), .cvII .i64 (.t 4), none⟩,
    ⟨(some 6), .bin .lss (.t 5) (.k (.int .i64 0)), none⟩,
    ⟨(some 2), .mv (.t 6), none⟩])
  (.ret))⟩
def cc_slices_IndexFunc_api_Rail_api_Rail : CFn := ⟨19, [.tmp 4],
  .seq (.reg [
    ⟨(some 4), .mv (.k (.int .i64 0)), none⟩])
  (.join (.seq (.reg [
     ⟨(some 6), .mv (.t 0), none⟩,
     ⟨(some 7), .lenS (.t 6), none⟩,
     ⟨(some 8), .mv (.k (.int .i64 0)), none⟩])
   (.block 0 (.loop (.seq (.reg [
       ⟨(some 9), .bin .lss (.t 8) (.t 7), none⟩])
     (.join (.cond (.t 9) (.skip)
       (.exit 0))
     (.join (.block 1 (.seq (.reg [
         ⟨(some 10), .mv (.t 8), none⟩,
         ⟨(some 5), .mv (.t 10), none⟩])
       (.seq (.reg [
         ⟨(some 11), .mv (.t 1), none⟩,
         ⟨(some 12), .mv (.t 0), none⟩,
         ⟨(some 13), .mv (.t 5), none⟩,
         ⟨(some 14), .iaS (.t 12) (.t 13) 11, none⟩,
         ⟨(some 15), .ld (.t 14) (some 11), none⟩,
         ⟨(some 16), .callv (.t 11) [(.t 15)], none⟩])
       (.cond (.t 16) (.seq (.reg [
          ⟨(some 17), .mv (.t 5), none⟩,
          ⟨(some 4), .mv (.t 17), none⟩])
        (.ret))
        (.skip)))))
     (.reg [
       ⟨(some 18), .bin .add (.t 8) (.k (.int .i64 1)), none⟩,
       ⟨(some 8), .mv (.t 18), none⟩])))))))
  (.seq (.reg [
    ⟨(some 4), .mv (.k (.int .i64 (-1))), none⟩])
  (.ret)))⟩
def cc_slices_IndexFunc_api_Bus_api_Bus : CFn := ⟨19, [.tmp 4],
  .seq (.reg [
    ⟨(some 4), .mv (.k (.int .i64 0)), none⟩])
  (.join (.seq (.reg [
     ⟨(some 6), .mv (.t 0), none⟩,
     ⟨(some 7), .lenS (.t 6), none⟩,
     ⟨(some 8), .mv (.k (.int .i64 0)), none⟩])
   (.block 0 (.loop (.seq (.reg [
       ⟨(some 9), .bin .lss (.t 8) (.t 7), none⟩])
     (.join (.cond (.t 9) (.skip)
       (.exit 0))
     (.join (.block 1 (.seq (.reg [
         ⟨(some 10), .mv (.t 8), none⟩,
         ⟨(some 5), .mv (.t 10), none⟩])
       (.seq (.reg [
         ⟨(some 11), .mv (.t 1), none⟩,
         ⟨(some 12), .mv (.t 0), none⟩,
         ⟨(some 13), .mv (.t 5), none⟩,
         ⟨(some 14), .iaS (.t 12) (.t 13) 2, none⟩,
         ⟨(some 15), .ld (.t 14) (some 2), none⟩,
         ⟨(some 16), .callv (.t 11) [(.t 15)], none⟩])
       (.cond (.t 16) (.seq (.reg [
          ⟨(some 17), .mv (.t 5), none⟩,
          ⟨(some 4), .mv (.t 17), none⟩])
        (.ret))
        (.skip)))))
     (.reg [
       ⟨(some 18), .bin .add (.t 8) (.k (.int .i64 1)), none⟩,
       ⟨(some 8), .mv (.t 18), none⟩])))))))
  (.seq (.reg [
    ⟨(some 4), .mv (.k (.int .i64 (-1))), none⟩])
  (.ret)))⟩
def cc_slices_IndexFunc_int_int : CFn := ⟨19, [.tmp 4],
  .seq (.reg [
    ⟨(some 4), .mv (.k (.int .i64 0)), none⟩])
  (.join (.seq (.reg [
     ⟨(some 6), .mv (.t 0), none⟩,
     ⟨(some 7), .lenS (.t 6), none⟩,
     ⟨(some 8), .mv (.k (.int .i64 0)), none⟩])
   (.block 0 (.loop (.seq (.reg [
       ⟨(some 9), .bin .lss (.t 8) (.t 7), none⟩])
     (.join (.cond (.t 9) (.skip)
       (.exit 0))
     (.join (.block 1 (.seq (.reg [
         ⟨(some 10), .mv (.t 8), none⟩,
         ⟨(some 5), .mv (.t 10), none⟩])
       (.seq (.reg [
         ⟨(some 11), .mv (.t 1), none⟩,
         ⟨(some 12), .mv (.t 0), none⟩,
         ⟨(some 13), .mv (.t 5), none⟩,
         ⟨(some 14), .iaS (.t 12) (.t 13) 1, none⟩,
         ⟨(some 15), .ld (.t 14) none, none⟩,
         ⟨(some 16), .callv (.t 11) [(.t 15)], none⟩])
       (.cond (.t 16) (.seq (.reg [
          ⟨(some 17), .mv (.t 5), none⟩,
          ⟨(some 4), .mv (.t 17), none⟩])
        (.ret))
        (.skip)))))
     (.reg [
       ⟨(some 18), .bin .add (.t 8) (.k (.int .i64 1)), none⟩,
       ⟨(some 8), .mv (.t 18), none⟩])))))))
  (.seq (.reg [
    ⟨(some 4), .mv (.k (.int .i64 (-1))), none⟩])
  (.ret)))⟩
end Go.Eng
namespace Go.Eng
set_option linter.unusedVariables false
set_option linter.unusedSimpArgs false
set_option linter.unnecessarySimpa false
open Go
set_option linter.unusedVariables false
def cc_law06_TableFloats (e_api_Detector f_table_May f_math_Signbit f_table_Same f_law06_awake : Nat) : CFn := ⟨68, [.tmp 4],
  .seq (.reg [
    ⟨(some 4), .mv (.k (.bool false)), none⟩])
  (.seq (.reg [
    ⟨(some 10), .mv (.t 0), none⟩,
    ⟨(some 11), .build [(.int .i64 0), (.float .f64 0), (.float .f64 0), (.float .f64 0), (.float .f64 0), (.int .i64 0), (.int .i64 0)] [(1, 1, (.t 10)), (2, 1, (.k (.float .f64 4607182418800017408)))], none⟩,
    ⟨(some 12), .bsl e_api_Detector 7 [(.t 11)], none⟩,
    ⟨(some 13), .build z131_45020 [(113, 1, (.t 12))], none⟩,
    ⟨(some 5), .alloc z131_45020, none⟩,
    ⟨none, .st (.t 5) (.t 13) 131, none⟩])
  (.seq (.reg [
    ⟨(some 14), .mv (.t 0), none⟩,
    ⟨(some 15), .build [(.int .i64 0), (.float .f64 0), (.float .f64 0), (.float .f64 0), (.float .f64 0), (.int .i64 0), (.int .i64 0)] [(1, 1, (.k (.float .f64 4607182418800017408))), (2, 1, (.k (.float .f64 4607182418800017408))), (4, 1, (.t 14))], none⟩,
    ⟨(some 16), .bsl e_api_Detector 7 [(.t 15)], none⟩,
    ⟨(some 17), .build z131_45020 [(113, 1, (.t 16))], none⟩,
    ⟨(some 6), .alloc z131_45020, none⟩,
    ⟨none, .st (.t 6) (.t 17) 131, none⟩])
  (.seq (.reg [
    ⟨(some 18), .mv (.t 1), none⟩,
    ⟨(some 19), .build [(.int .i64 0), (.float .f64 0), (.float .f64 0), (.float .f64 0), (.float .f64 0), (.int .i64 0), (.int .i64 0)] [(1, 1, (.k (.float .f64 4607182418800017408))), (2, 1, (.k (.float .f64 4607182418800017408))), (4, 1, (.t 18))], none⟩,
    ⟨(some 20), .bsl e_api_Detector 7 [(.t 19)], none⟩,
    ⟨(some 21), .build z131_45020 [(113, 1, (.t 20))], none⟩,
    ⟨(some 7), .alloc z131_45020, none⟩,
    ⟨none, .st (.t 7) (.t 21) 131, none⟩])
  (.seq (.reg [
    ⟨(some 22), .ld (.t 5) (some 131), none⟩,
    ⟨(some 23), .call f_table_May [(.t 22)], none⟩,
    ⟨(some 24), .mv (.t 0), none⟩,
    ⟨(some 25), .bin .gtr (.t 24) (.k (.float .f64 0)), none⟩,
    ⟨(some 26), .mv (.t 25), none⟩,
    ⟨(some 27), .mv (.t 0), (some (26, true))⟩,
    ⟨(some 28), .bin .leq (.t 27) (.k (.float .f64 4696837146684686336)), (some (26, true))⟩,
    ⟨(some 29), .pick (.t 26) (.t 28) (.k (.bool false)), none⟩,
    ⟨(some 30), .bb false (.t 23) (.t 29), none⟩,
    ⟨(some 8), .mv (.t 30), none⟩])
  (.seq (.reg [
    ⟨(some 31), .ld (.t 6) (some 131), none⟩,
    ⟨(some 32), .call f_table_May [(.t 31)], none⟩,
    ⟨(some 33), .mv (.t 0), none⟩,
    ⟨(some 34), .bin .geq (.t 33) (.k (.float .f64 0)), none⟩,
    ⟨(some 35), .mv (.t 34), none⟩,
    ⟨(some 36), .mv (.t 0), (some (35, true))⟩,
    ⟨(some 37), .bin .leq (.t 36) (.k (.float .f64 4652006429231887155)), (some (35, true))⟩,
    ⟨(some 38), .pick (.t 35) (.t 37) (.k (.bool false)), none⟩,
    ⟨(some 39), .mv (.t 38), none⟩,
    ⟨(some 40), .mv (.t 0), (some (39, true))⟩,
    ⟨(some 41), .call f_math_Signbit [(.t 40)], (some (39, true))⟩,
    ⟨(some 42), .un .not (.t 41), (some (39, true))⟩,
    ⟨(some 43), .pick (.t 39) (.t 42) (.k (.bool false)), none⟩,
    ⟨(some 44), .bb false (.t 32) (.t 43), none⟩,
    ⟨(some 9), .mv (.t 44), none⟩])
  (.seq (.reg [
    ⟨(some 45), .mv (.t 8), none⟩,
    ⟨(some 46), .mv (.t 45), none⟩,
    ⟨(some 47), .mv (.t 9), (some (46, true))⟩,
    ⟨(some 48), .pick (.t 46) (.t 47) (.k (.bool false)), none⟩,
    ⟨(some 49), .mv (.t 48), none⟩,
    ⟨(some 50), .ld (.t 6) (some 131), (some (49, true))⟩,
    ⟨(some 51), .ld (.t 7) (some 131), (some (49, true))⟩,
    ⟨(some 52), .call f_table_Same [(.t 50), (.t 51)], (some (49, true))⟩,
    ⟨(some 53), .mv (.t 0), (some (49, true))⟩,
    ⟨(some 54), .xt .fbits (.t 53), (some (49, true))⟩,
    ⟨(some 55), .mv (.t 1), (some (49, true))⟩,
    ⟨(some 56), .xt .fbits (.t 55), (some (49, true))⟩,
    ⟨(some 57), .bin .eql (.t 54) (.t 56), (some (49, true))⟩,
    ⟨(some 58), .bb false (.t 52) (.t 57), (some (49, true))⟩,
    ⟨(some 59), .pick (.t 49) (.t 58) (.k (.bool false)), none⟩,
    ⟨(some 60), .mv (.t 59), none⟩,
    ⟨(some 61), .ld (.t 5) (some 131), (some (60, true))⟩,
    ⟨(some 62), .ld (.t 5) (some 131), (some (60, true))⟩,
    ⟨(some 63), .call f_table_Same [(.t 61), (.t 62)], (some (60, true))⟩,
    ⟨(some 64), .pick (.t 60) (.t 63) (.k (.bool false)), none⟩,
    ⟨(some 65), .mv (.t 64), none⟩,
    ⟨(some 66), .call f_law06_awake [], (some (65, true))⟩,
    ⟨(some 67), .pick (.t 65) (.t 66) (.k (.bool false)), none⟩,
    ⟨(some 4), .mv (.t 67), none⟩])
  (.ret)))))))⟩
def cc_table_Clone (f_slices_Clone_2_int_2_int f_slices_Clone_int_int f_slices_Clone_api_Detector_api_Detector f_slices_Clone_api_Rail_api_Rail f_slices_Clone_api_Bus_api_Bus : Nat) : CFn := ⟨42, [.cell 2 (some 131)],
  .seq (.reg [
    ⟨(some 1), .box (.t 0), none⟩,
    ⟨(some 2), .alloc z131_45020, none⟩])
  (.seq (.reg [
    ⟨(some 5), .fa (.t 1) 104, none⟩,
    ⟨(some 6), .ld (.t 5) none, none⟩,
    ⟨(some 7), .call f_slices_Clone_2_int_2_int [(.t 6)], none⟩,
    ⟨(some 8), .fa (.t 1) 104, none⟩,
    ⟨none, .st (.t 8) (.t 7) 1, none⟩])
  (.join (.seq (.reg [
     ⟨(some 9), .fa (.t 1) 104, none⟩,
     ⟨(some 10), .ld (.t 9) none, none⟩,
     ⟨(some 11), .lenS (.t 10), none⟩,
     ⟨(some 12), .mv (.k (.int .i64 0)), none⟩])
   (.block 0 (.loop (.seq (.reg [
       ⟨(some 13), .bin .lss (.t 12) (.t 11), none⟩])
     (.join (.cond (.t 13) (.skip)
       (.exit 0))
     (.join (.block 1 (.seq (.reg [
         ⟨(some 14), .mv (.t 12), none⟩,
         ⟨(some 15), .iaS (.t 10) (.t 12) 2, none⟩,
         ⟨(some 16), .ld (.t 15) (some 2), none⟩,
         ⟨(some 4), .alloc [.nils, .nils], none⟩,
         ⟨(some 3), .mv (.t 14), none⟩,
         ⟨none, .st (.t 4) (.t 16) 2, none⟩])
       (.reg [
         ⟨(some 17), .fa (.t 1) 104, none⟩,
         ⟨(some 18), .ld (.t 17) none, none⟩,
         ⟨(some 19), .mv (.t 3), none⟩,
         ⟨(some 20), .iaA (.t 4) (.k (.int .i64 0)) 2 1, none⟩,
         ⟨(some 21), .ld (.t 20) none, none⟩,
         ⟨(some 22), .call f_slices_Clone_int_int [(.t 21)], none⟩,
         ⟨(some 23), .iaA (.t 4) (.k (.int .i64 1)) 2 1, none⟩,
         ⟨(some 24), .ld (.t 23) none, none⟩,
         ⟨(some 25), .call f_slices_Clone_int_int [(.t 24)], none⟩,
         ⟨(some 26), .build [.nils, .nils] [(0, 1, (.t 22)), (1, 1, (.t 25))], none⟩,
         ⟨(some 27), .iaS (.t 18) (.t 19) 2, none⟩,
         ⟨none, .st (.t 27) (.t 26) 2, none⟩])))
     (.reg [
       ⟨(some 28), .bin .add (.t 12) (.k (.int .i64 1)), none⟩,
       ⟨(some 12), .mv (.t 28), none⟩])))))))
  (.seq (.reg [
    ⟨(some 29), .fa (.t 1) 113, none⟩,
    ⟨(some 30), .ld (.t 29) none, none⟩,
    ⟨(some 31), .call f_slices_Clone_api_Detector_api_Detector [(.t 30)], none⟩,
    ⟨(some 32), .fa (.t 1) 114, none⟩,
    ⟨(some 33), .ld (.t 32) none, none⟩,
    ⟨(some 34), .call f_slices_Clone_api_Rail_api_Rail [(.t 33)], none⟩,
    ⟨(some 35), .fa (.t 1) 115, none⟩,
    ⟨(some 36), .ld (.t 35) none, none⟩,
    ⟨(some 37), .call f_slices_Clone_api_Bus_api_Bus [(.t 36)], none⟩,
    ⟨(some 38), .fa (.t 1) 113, none⟩,
    ⟨none, .st (.t 38) (.t 31) 1, none⟩,
    ⟨(some 39), .fa (.t 1) 114, none⟩,
    ⟨none, .st (.t 39) (.t 34) 1, none⟩,
    ⟨(some 40), .fa (.t 1) 115, none⟩,
    ⟨none, .st (.t 40) (.t 37) 1, none⟩])
  (.seq (.reg [
    ⟨(some 41), .ld (.t 1) (some 131), none⟩,
    ⟨none, .st (.t 2) (.t 41) 131, none⟩])
  (.ret)))))⟩
def cc_table_Same (f_table_Same_1 f_slices_EqualFunc_2_int_2_int_2_int_2_int f_slices_EqualFunc_api_Detector_api_Detector_api_Detector_api_Detector f_table_alike f_slices_Equal_api_Rail_api_Rail f_slices_Equal_api_Bus_api_Bus : Nat) : CFn := ⟨103, [.tmp 4],
  .seq (.reg [
    ⟨(some 2), .box (.t 0), none⟩,
    ⟨(some 3), .box (.t 1), none⟩,
    ⟨(some 4), .mv (.k (.bool false)), none⟩])
  (.seq (.reg [
    ⟨(some 5), .mv (.k (.fn (.func f_table_Same_1) [] [])), none⟩])
  (.seq (.reg [
    ⟨(some 6), .fa (.t 2) 0, none⟩,
    ⟨(some 7), .ld (.t 6) (some 104), none⟩,
    ⟨(some 8), .fa (.t 3) 0, none⟩,
    ⟨(some 9), .ld (.t 8) (some 104), none⟩,
    ⟨(some 10), .eqc [.b, .i, .i, .i, .i, .i, .i, .i, .i, .i, .i, .b, .b, .b, .i, .i, .i, .i, .i, .i, .i, .i, .i, .i, .b, .b, .b, .i, .i, .i, .i, .i, .i, .i, .i, .i, .i, .b, .b, .b, .i, .i, .i, .i, .i, .i, .i, .i, .i, .i, .b, .b, .b, .i, .i, .i, .i, .i, .i, .i, .i, .i, .i, .b, .b, .b, .i, .i, .i, .i, .i, .i, .i, .i, .i, .i, .b, .b, .b, .i, .i, .i, .i, .i, .i, .i, .i, .i, .i, .b, .b, .b, .i, .i, .i, .i, .i, .i, .i, .i, .i, .i, .b, .b] false (.t 7) (.t 9), none⟩,
    ⟨(some 11), .mv (.t 10), none⟩,
    ⟨(some 12), .fa (.t 2) 104, (some (11, true))⟩,
    ⟨(some 13), .ld (.t 12) none, (some (11, true))⟩,
    ⟨(some 14), .fa (.t 3) 104, (some (11, true))⟩,
    ⟨(some 15), .ld (.t 14) none, (some (11, true))⟩,
    ⟨(some 16), .mv (.t 5), (some (11, true))⟩,
    ⟨(some 17), .call f_slices_EqualFunc_2_int_2_int_2_int_2_int [(.t 13), (.t 15), (.t 16)], (some (11, true))⟩,
    ⟨(some 18), .pick (.t 11) (.t 17) (.k (.bool false)), none⟩,
    ⟨(some 19), .mv (.t 18), none⟩,
    ⟨(some 20), .fa (.t 2) 105, (some (19, true))⟩,
    ⟨(some 21), .ld (.t 20) (some 8), (some (19, true))⟩,
    ⟨(some 22), .fa (.t 3) 105, (some (19, true))⟩,
    ⟨(some 23), .ld (.t 22) (some 8), (some (19, true))⟩,
    ⟨(some 24), .eqc [.i, .i, .i, .i, .i, .i, .i, .i] false (.t 21) (.t 23), (some (19, true))⟩,
    ⟨(some 25), .pick (.t 19) (.t 24) (.k (.bool false)), none⟩,
    ⟨(some 26), .mv (.t 25), none⟩,
    ⟨(some 27), .fa (.t 2) 113, (some (26, true))⟩,
    ⟨(some 28), .ld (.t 27) none, (some (26, true))⟩,
    ⟨(some 29), .fa (.t 3) 113, (some (26, true))⟩,
    ⟨(some 30), .ld (.t 29) none, (some (26, true))⟩,
    ⟨(some 31), .call f_slices_EqualFunc_api_Detector_api_Detector_api_Detector_api_Detector [(.t 28), (.t 30), (.k (.fn (.func f_table_alike) [] []))], (some (26, true))⟩,
    ⟨(some 32), .pick (.t 26) (.t 31) (.k (.bool false)), none⟩,
    ⟨(some 33), .mv (.t 32), none⟩,
    ⟨(some 34), .fa (.t 2) 114, (some (33, true))⟩,
    ⟨(some 35), .ld (.t 34) none, (some (33, true))⟩,
    ⟨(some 36), .fa (.t 3) 114, (some (33, true))⟩,
    ⟨(some 37), .ld (.t 36) none, (some (33, true))⟩,
    ⟨(some 38), .call f_slices_Equal_api_Rail_api_Rail [(.t 35), (.t 37)], (some (33, true))⟩,
    ⟨(some 39), .pick (.t 33) (.t 38) (.k (.bool false)), none⟩,
    ⟨(some 40), .mv (.t 39), none⟩,
    ⟨(some 41), .fa (.t 2) 115, (some (40, true))⟩,
    ⟨(some 42), .ld (.t 41) none, (some (40, true))⟩,
    ⟨(some 43), .fa (.t 3) 115, (some (40, true))⟩,
    ⟨(some 44), .ld (.t 43) none, (some (40, true))⟩,
    ⟨(some 45), .call f_slices_Equal_api_Bus_api_Bus [(.t 42), (.t 44)], (some (40, true))⟩,
    ⟨(some 46), .pick (.t 40) (.t 45) (.k (.bool false)), none⟩,
    ⟨(some 47), .mv (.t 46), none⟩,
    ⟨(some 48), .fa (.t 2) 116, (some (47, true))⟩,
    ⟨(some 49), .ld (.t 48) none, (some (47, true))⟩,
    ⟨(some 50), .fa (.t 3) 116, (some (47, true))⟩,
    ⟨(some 51), .ld (.t 50) none, (some (47, true))⟩,
    ⟨(some 52), .bin .eql (.t 49) (.t 51), (some (47, true))⟩,
    ⟨(some 53), .pick (.t 47) (.t 52) (.k (.bool false)), none⟩,
    ⟨(some 54), .mv (.t 53), none⟩,
    ⟨(some 55), .fa (.t 2) 117, (some (54, true))⟩,
    ⟨(some 56), .ld (.t 55) none, (some (54, true))⟩,
    ⟨(some 57), .fa (.t 3) 117, (some (54, true))⟩,
    ⟨(some 58), .ld (.t 57) none, (some (54, true))⟩,
    ⟨(some 59), .bin .eql (.t 56) (.t 58), (some (54, true))⟩,
    ⟨(some 60), .pick (.t 54) (.t 59) (.k (.bool false)), none⟩,
    ⟨(some 61), .mv (.t 60), none⟩,
    ⟨(some 62), .fa (.t 2) 118, (some (61, true))⟩,
    ⟨(some 63), .ld (.t 62) none, (some (61, true))⟩,
    ⟨(some 64), .fa (.t 3) 118, (some (61, true))⟩,
    ⟨(some 65), .ld (.t 64) none, (some (61, true))⟩,
    ⟨(some 66), .bin .eql (.t 63) (.t 65), (some (61, true))⟩,
    ⟨(some 67), .pick (.t 61) (.t 66) (.k (.bool false)), none⟩,
    ⟨(some 68), .mv (.t 67), none⟩,
    ⟨(some 69), .fa (.t 2) 119, (some (68, true))⟩,
    ⟨(some 70), .ld (.t 69) none, (some (68, true))⟩,
    ⟨(some 71), .fa (.t 3) 119, (some (68, true))⟩,
    ⟨(some 72), .ld (.t 71) none, (some (68, true))⟩,
    ⟨(some 73), .bin .eql (.t 70) (.t 72), (some (68, true))⟩,
    ⟨(some 74), .pick (.t 68) (.t 73) (.k (.bool false)), none⟩,
    ⟨(some 75), .mv (.t 74), none⟩,
    ⟨(some 76), .fa (.t 2) 120, (some (75, true))⟩,
    ⟨(some 77), .ld (.t 76) none, (some (75, true))⟩,
    ⟨(some 78), .fa (.t 3) 120, (some (75, true))⟩,
    ⟨(some 79), .ld (.t 78) none, (some (75, true))⟩,
    ⟨(some 80), .bin .eql (.t 77) (.t 79), (some (75, true))⟩,
    ⟨(some 81), .pick (.t 75) (.t 80) (.k (.bool false)), none⟩,
    ⟨(some 82), .mv (.t 81), none⟩,
    ⟨(some 83), .fa (.t 2) 121, (some (82, true))⟩,
    ⟨(some 84), .ld (.t 83) (some 8), (some (82, true))⟩,
    ⟨(some 85), .fa (.t 3) 121, (some (82, true))⟩,
    ⟨(some 86), .ld (.t 85) (some 8), (some (82, true))⟩,
    ⟨(some 87), .eqc [.i, .i, .i, .i, .i, .i, .i, .i] false (.t 84) (.t 86), (some (82, true))⟩,
    ⟨(some 88), .pick (.t 82) (.t 87) (.k (.bool false)), none⟩,
    ⟨(some 89), .mv (.t 88), none⟩,
    ⟨(some 90), .fa (.t 2) 129, (some (89, true))⟩,
    ⟨(some 91), .ld (.t 90) none, (some (89, true))⟩,
    ⟨(some 92), .fa (.t 3) 129, (some (89, true))⟩,
    ⟨(some 93), .ld (.t 92) none, (some (89, true))⟩,
    ⟨(some 94), .bin .eql (.t 91) (.t 93), (some (89, true))⟩,
    ⟨(some 95), .pick (.t 89) (.t 94) (.k (.bool false)), none⟩,
    ⟨(some 96), .mv (.t 95), none⟩,
    ⟨(some 97), .fa (.t 2) 130, (some (96, true))⟩,
    ⟨(some 98), .ld (.t 97) none, (some (96, true))⟩,
    ⟨(some 99), .fa (.t 3) 130, (some (96, true))⟩,
    ⟨(some 100), .ld (.t 99) none, (some (96, true))⟩,
    ⟨(some 101), .bin .eql (.t 98) (.t 100), (some (96, true))⟩,
    ⟨(some 102), .pick (.t 96) (.t 101) (.k (.bool false)), none⟩,
    ⟨(some 4), .mv (.t 102), none⟩])
  (.ret)))⟩
def cc_law06_awake (f_table_May f_table_Clone f_table_Same : Nat) : CFn := ⟨16, [.tmp 0],
  .seq (.reg [
    ⟨(some 0), .mv (.k (.bool false)), none⟩])
  (.seq (.reg [
    ⟨(some 1), .alloc z131_45020, none⟩])
  (.seq (.reg [
    ⟨(some 2), .fa (.t 1) 129, none⟩,
    ⟨none, .st (.t 2) (.k (.int .i64 (-1))) 1, none⟩])
  (.seq (.reg [
    ⟨(some 3), .build z131_45020 [], none⟩,
    ⟨(some 4), .call f_table_May [(.t 3)], none⟩,
    ⟨(some 5), .mv (.t 4), none⟩,
    ⟨(some 6), .ld (.t 1) (some 131), (some (5, true))⟩,
    ⟨(some 7), .call f_table_May [(.t 6)], (some (5, true))⟩,
    ⟨(some 8), .un .not (.t 7), (some (5, true))⟩,
    ⟨(some 9), .pick (.t 5) (.t 8) (.k (.bool false)), none⟩,
    ⟨(some 10), .mv (.t 9), none⟩,
    ⟨(some 11), .ld (.t 1) (some 131), (some (10, true))⟩,
    ⟨(some 12), .ld (.t 1) (some 131), (some (10, true))⟩,
    ⟨(some 13), .call f_table_Clone [(.t 12)], (some (10, true))⟩,
    ⟨(some 14), .call f_table_Same [(.t 11), (.t 13)], (some (10, true))⟩,
    ⟨(some 15), .pick (.t 10) (.t 14) (.k (.bool false)), none⟩,
    ⟨(some 0), .mv (.t 15), none⟩])
  (.ret))))⟩
def cc_slices_Clone_2_int_2_int (e_2_int : Nat) : CFn := ⟨8, [.tmp 2],
  .seq (.reg [
    ⟨(some 2), .mv (.k .nils), none⟩])
  (.join (.seq (.reg [
     ⟨(some 3), .mv (.t 0), none⟩,
     ⟨(some 4), .isn false (.t 3), none⟩])
   (.cond (.t 4) (.seq (.reg [
      ⟨(some 2), .mv (.k .nils), none⟩])
    (.ret))
    (.skip)))
  (.seq (.reg [
    ⟨(some 5), .bsl e_2_int 2 [], none⟩,
    ⟨(some 6), .mv (.t 0), none⟩,
    ⟨(some 7), .app e_2_int 2 48 (.t 5) (.t 6), none⟩,
    ⟨(some 2), .mv (.t 7), none⟩])
  (.ret)))⟩
def cc_slices_Clone_api_Detector_api_Detector (e_api_Detector : Nat) : CFn := ⟨8, [.tmp 2],
  .seq (.reg [
    ⟨(some 2), .mv (.k .nils), none⟩])
  (.join (.seq (.reg [
     ⟨(some 3), .mv (.t 0), none⟩,
     ⟨(some 4), .isn false (.t 3), none⟩])
   (.cond (.t 4) (.seq (.reg [
      ⟨(some 2), .mv (.k .nils), none⟩])
    (.ret))
    (.skip)))
  (.seq (.reg [
    ⟨(some 5), .bsl e_api_Detector 7 [], none⟩,
    ⟨(some 6), .mv (.t 0), none⟩,
    ⟨(some 7), .app e_api_Detector 7 56 (.t 5) (.t 6), none⟩,
    ⟨(some 2), .mv (.t 7), none⟩])
  (.ret)))⟩
def cc_slices_Clone_api_Rail_api_Rail (e_api_Rail : Nat) : CFn := ⟨8, [.tmp 2],
  .seq (.reg [
    ⟨(some 2), .mv (.k .nils), none⟩])
  (.join (.seq (.reg [
     ⟨(some 3), .mv (.t 0), none⟩,
     ⟨(some 4), .isn false (.t 3), none⟩])
   (.cond (.t 4) (.seq (.reg [
      ⟨(some 2), .mv (.k .nils), none⟩])
    (.ret))
    (.skip)))
  (.seq (.reg [
    ⟨(some 5), .bsl e_api_Rail 11 [], none⟩,
    ⟨(some 6), .mv (.t 0), none⟩,
    ⟨(some 7), .app e_api_Rail 11 88 (.t 5) (.t 6), none⟩,
    ⟨(some 2), .mv (.t 7), none⟩])
  (.ret)))⟩
def cc_slices_Clone_api_Bus_api_Bus (e_api_Bus : Nat) : CFn := ⟨8, [.tmp 2],
  .seq (.reg [
    ⟨(some 2), .mv (.k .nils), none⟩])
  (.join (.seq (.reg [
     ⟨(some 3), .mv (.t 0), none⟩,
     ⟨(some 4), .isn false (.t 3), none⟩])
   (.cond (.t 4) (.seq (.reg [
      ⟨(some 2), .mv (.k .nils), none⟩])
    (.ret))
    (.skip)))
  (.seq (.reg [
    ⟨(some 5), .bsl e_api_Bus 2 [], none⟩,
    ⟨(some 6), .mv (.t 0), none⟩,
    ⟨(some 7), .app e_api_Bus 2 16 (.t 5) (.t 6), none⟩,
    ⟨(some 2), .mv (.t 7), none⟩])
  (.ret)))⟩
def cc_table_Same_1 (f_slices_Equal_int_int : Nat) : CFn := ⟨17, [.tmp 4],
  .seq (.reg [
    ⟨(some 2), .box (.t 0), none⟩,
    ⟨(some 3), .box (.t 1), none⟩,
    ⟨(some 4), .mv (.k (.bool false)), none⟩])
  (.seq (.reg [
    ⟨(some 5), .iaA (.t 2) (.k (.int .i64 0)) 2 1, none⟩,
    ⟨(some 6), .ld (.t 5) none, none⟩,
    ⟨(some 7), .iaA (.t 3) (.k (.int .i64 0)) 2 1, none⟩,
    ⟨(some 8), .ld (.t 7) none, none⟩,
    ⟨(some 9), .call f_slices_Equal_int_int [(.t 6), (.t 8)], none⟩,
    ⟨(some 10), .mv (.t 9), none⟩,
    ⟨(some 11), .iaA (.t 2) (.k (.int .i64 1)) 2 1, (some (10, true))⟩,
    ⟨(some 12), .ld (.t 11) none, (some (10, true))⟩,
    ⟨(some 13), .iaA (.t 3) (.k (.int .i64 1)) 2 1, (some (10, true))⟩,
    ⟨(some 14), .ld (.t 13) none, (some (10, true))⟩,
    ⟨(some 15), .call f_slices_Equal_int_int [(.t 12), (.t 14)], (some (10, true))⟩,
    ⟨(some 16), .pick (.t 10) (.t 15) (.k (.bool false)), none⟩,
    ⟨(some 4), .mv (.t 16), none⟩])
  (.ret))⟩
def cc_slices_Equal_int_int : CFn := ⟨26, [.tmp 4],
  .seq (.reg [
    ⟨(some 4), .mv (.k (.bool false)), none⟩])
  (.join (.seq (.reg [
     ⟨(some 6), .mv (.t 0), none⟩,
     ⟨(some 7), .lenS (.t 6), none⟩,
     ⟨(some 8), .mv (.t 1), none⟩,
     ⟨(some 9), .lenS (.t 8), none⟩,
     ⟨(some 10), .bin .neq (.t 7) (.t 9), none⟩])
   (.cond (.t 10) (.seq (.reg [
      ⟨(some 4), .mv (.k (.bool false)), none⟩])
    (.ret))
    (.skip)))
  (.join (.seq (.reg [
     ⟨(some 11), .mv (.t 0), none⟩,
     ⟨(some 12), .lenS (.t 11), none⟩,
     ⟨(some 13), .mv (.k (.int .i64 0)), none⟩])
   (.block 0 (.loop (.seq (.reg [
       ⟨(some 14), .bin .lss (.t 13) (.t 12), none⟩])
     (.join (.cond (.t 14) (.skip)
       (.exit 0))
     (.join (.block 1 (.seq (.reg [
         ⟨(some 15), .mv (.t 13), none⟩,
         ⟨(some 5), .mv (.t 15), none⟩])
       (.seq (.reg [
         ⟨(some 16), .mv (.t 0), none⟩,
         ⟨(some 17), .mv (.t 5), none⟩,
         ⟨(some 18), .iaS (.t 16) (.t 17) 1, none⟩,
         ⟨(some 19), .ld (.t 18) none, none⟩,
         ⟨(some 20), .mv (.t 1), none⟩,
         ⟨(some 21), .mv (.t 5), none⟩,
         ⟨(some 22), .iaS (.t 20) (.t 21) 1, none⟩,
         ⟨(some 23), .ld (.t 22) none, none⟩,
         ⟨(some 24), .bin .neq (.t 19) (.t 23), none⟩])
       (.cond (.t 24) (.seq (.reg [
          ⟨(some 4), .mv (.k (.bool false)), none⟩])
        (.ret))
        (.skip)))))
     (.reg [
       ⟨(some 25), .bin .add (.t 13) (.k (.int .i64 1)), none⟩,
       ⟨(some 13), .mv (.t 25), none⟩])))))))
  (.seq (.reg [
    ⟨(some 4), .mv (.k (.bool true)), none⟩])
  (.ret))))⟩
def cc_slices_EqualFunc_2_int_2_int_2_int_2_int : CFn := ⟨32, [.tmp 6],
  .seq (.reg [
    ⟨(some 6), .mv (.k (.bool false)), none⟩])
  (.join (.seq (.reg [
     ⟨(some 10), .mv (.t 0), none⟩,
     ⟨(some 11), .lenS (.t 10), none⟩,
     ⟨(some 12), .mv (.t 1), none⟩,
     ⟨(some 13), .lenS (.t 12), none⟩,
     ⟨(some 14), .bin .neq (.t 11) (.t 13), none⟩])
   (.cond (.t 14) (.seq (.reg [
      ⟨(some 6), .mv (.k (.bool false)), none⟩])
    (.ret))
    (.skip)))
  (.join (.seq (.reg [
     ⟨(some 15), .mv (.t 0), none⟩,
     ⟨(some 16), .lenS (.t 15), none⟩,
     ⟨(some 17), .mv (.k (.int .i64 0)), none⟩])
   (.block 0 (.loop (.seq (.reg [
       ⟨(some 18), .bin .lss (.t 17) (.t 16), none⟩])
     (.join (.cond (.t 18) (.skip)
       (.exit 0))
     (.join (.block 1 (.seq (.reg [
         ⟨(some 19), .mv (.t 17), none⟩,
         ⟨(some 20), .iaS (.t 15) (.t 17) 2, none⟩,
         ⟨(some 21), .ld (.t 20) (some 2), none⟩,
         ⟨(some 8), .alloc [.nils, .nils], none⟩,
         ⟨(some 7), .mv (.t 19), none⟩,
         ⟨none, .st (.t 8) (.t 21) 2, none⟩])
       (.seq (.reg [
         ⟨(some 22), .mv (.t 1), none⟩,
         ⟨(some 23), .mv (.t 7), none⟩,
         ⟨(some 24), .iaS (.t 22) (.t 23) 2, none⟩,
         ⟨(some 25), .ld (.t 24) (some 2), none⟩,
         ⟨(some 9), .alloc [.nils, .nils], none⟩,
         ⟨none, .st (.t 9) (.t 25) 2, none⟩])
       (.seq (.reg [
         ⟨(some 26), .mv (.t 2), none⟩,
         ⟨(some 27), .ld (.t 8) (some 2), none⟩,
         ⟨(some 28), .ld (.t 9) (some 2), none⟩,
         ⟨(some 29), .callv (.t 26) [(.t 27), (.t 28)], none⟩,
         ⟨(some 30), .un .not (.t 29), none⟩])
       (.cond (.t 30) (.seq (.reg [
          ⟨(some 6), .mv (.k (.bool false)), none⟩])
        (.ret))
        (.skip))))))
     (.reg [
       ⟨(some 31), .bin .add (.t 17) (.k (.int .i64 1)), none⟩,
       ⟨(some 17), .mv (.t 31), none⟩])))))))
  (.seq (.reg [
    ⟨(some 6), .mv (.k (.bool true)), none⟩])
  (.ret))))⟩
def cc_slices_EqualFunc_api_Detector_api_Detector_api_Detector_api_Detector : CFn := ⟨32, [.tmp 6],
  .seq (.reg [
    ⟨(some 6), .mv (.k (.bool false)), none⟩])
  (.join (.seq (.reg [
     ⟨(some 10), .mv (.t 0), none⟩,
     ⟨(some 11), .lenS (.t 10), none⟩,
     ⟨(some 12), .mv (.t 1), none⟩,
     ⟨(some 13), .lenS (.t 12), none⟩,
     ⟨(some 14), .bin .neq (.t 11) (.t 13), none⟩])
   (.cond (.t 14) (.seq (.reg [
      ⟨(some 6), .mv (.k (.bool false)), none⟩])
    (.ret))
    (.skip)))
  (.join (.seq (.reg [
     ⟨(some 15), .mv (.t 0), none⟩,
     ⟨(some 16), .lenS (.t 15), none⟩,
     ⟨(some 17), .mv (.k (.int .i64 0)), none⟩])
   (.block 0 (.loop (.seq (.reg [
       ⟨(some 18), .bin .lss (.t 17) (.t 16), none⟩])
     (.join (.cond (.t 18) (.skip)
       (.exit 0))
     (.join (.block 1 (.seq (.reg [
         ⟨(some 19), .mv (.t 17), none⟩,
         ⟨(some 20), .iaS (.t 15) (.t 17) 7, none⟩,
         ⟨(some 21), .ld (.t 20) (some 7), none⟩,
         ⟨(some 8), .alloc [(.int .i64 0), (.float .f64 0), (.float .f64 0), (.float .f64 0), (.float .f64 0), (.int .i64 0), (.int .i64 0)], none⟩,
         ⟨(some 7), .mv (.t 19), none⟩,
         ⟨none, .st (.t 8) (.t 21) 7, none⟩])
       (.seq (.reg [
         ⟨(some 22), .mv (.t 1), none⟩,
         ⟨(some 23), .mv (.t 7), none⟩,
         ⟨(some 24), .iaS (.t 22) (.t 23) 7, none⟩,
         ⟨(some 25), .ld (.t 24) (some 7), none⟩,
         ⟨(some 9), .alloc [(.int .i64 0), (.float .f64 0), (.float .f64 0), (.float .f64 0), (.float .f64 0), (.int .i64 0), (.int .i64 0)], none⟩,
         ⟨none, .st (.t 9) (.t 25) 7, none⟩])
       (.seq (.reg [
         ⟨(some 26), .mv (.t 2), none⟩,
         ⟨(some 27), .ld (.t 8) (some 7), none⟩,
         ⟨(some 28), .ld (.t 9) (some 7), none⟩,
         ⟨(some 29), .callv (.t 26) [(.t 27), (.t 28)], none⟩,
         ⟨(some 30), .un .not (.t 29), none⟩])
       (.cond (.t 30) (.seq (.reg [
          ⟨(some 6), .mv (.k (.bool false)), none⟩])
        (.ret))
        (.skip))))))
     (.reg [
       ⟨(some 31), .bin .add (.t 17) (.k (.int .i64 1)), none⟩,
       ⟨(some 17), .mv (.t 31), none⟩])))))))
  (.seq (.reg [
    ⟨(some 6), .mv (.k (.bool true)), none⟩])
  (.ret))))⟩
def cc_table_alike (f_table_bits : Nat) : CFn := ⟨52, [.tmp 4],
  .seq (.reg [
    ⟨(some 2), .box (.t 0), none⟩,
    ⟨(some 3), .box (.t 1), none⟩,
    ⟨(some 4), .mv (.k (.bool false)), none⟩])
  (.seq (.reg [
    ⟨(some 5), .fa (.t 2) 0, none⟩,
    ⟨(some 6), .ld (.t 5) none, none⟩,
    ⟨(some 7), .fa (.t 3) 0, none⟩,
    ⟨(some 8), .ld (.t 7) none, none⟩,
    ⟨(some 9), .bin .eql (.t 6) (.t 8), none⟩,
    ⟨(some 10), .mv (.t 9), none⟩,
    ⟨(some 11), .fa (.t 2) 1, (some (10, true))⟩,
    ⟨(some 12), .ld (.t 11) none, (some (10, true))⟩,
    ⟨(some 13), .fa (.t 3) 1, (some (10, true))⟩,
    ⟨(some 14), .ld (.t 13) none, (some (10, true))⟩,
    ⟨(some 15), .call f_table_bits [(.t 12), (.t 14)], (some (10, true))⟩,
    ⟨(some 16), .pick (.t 10) (.t 15) (.k (.bool false)), none⟩,
    ⟨(some 17), .mv (.t 16), none⟩,
    ⟨(some 18), .fa (.t 2) 2, (some (17, true))⟩,
    ⟨(some 19), .ld (.t 18) none, (some (17, true))⟩,
    ⟨(some 20), .fa (.t 3) 2, (some (17, true))⟩,
    ⟨(some 21), .ld (.t 20) none, (some (17, true))⟩,
    ⟨(some 22), .call f_table_bits [(.t 19), (.t 21)], (some (17, true))⟩,
    ⟨(some 23), .pick (.t 17) (.t 22) (.k (.bool false)), none⟩,
    ⟨(some 24), .mv (.t 23), none⟩,
    ⟨(some 25), .fa (.t 2) 3, (some (24, true))⟩,
    ⟨(some 26), .ld (.t 25) none, (some (24, true))⟩,
    ⟨(some 27), .fa (.t 3) 3, (some (24, true))⟩,
    ⟨(some 28), .ld (.t 27) none, (some (24, true))⟩,
    ⟨(some 29), .call f_table_bits [(.t 26), (.t 28)], (some (24, true))⟩,
    ⟨(some 30), .pick (.t 24) (.t 29) (.k (.bool false)), none⟩,
    ⟨(some 31), .mv (.t 30), none⟩,
    ⟨(some 32), .fa (.t 2) 4, (some (31, true))⟩,
    ⟨(some 33), .ld (.t 32) none, (some (31, true))⟩,
    ⟨(some 34), .fa (.t 3) 4, (some (31, true))⟩,
    ⟨(some 35), .ld (.t 34) none, (some (31, true))⟩,
    ⟨(some 36), .call f_table_bits [(.t 33), (.t 35)], (some (31, true))⟩,
    ⟨(some 37), .pick (.t 31) (.t 36) (.k (.bool false)), none⟩,
    ⟨(some 38), .mv (.t 37), none⟩,
    ⟨(some 39), .fa (.t 2) 5, (some (38, true))⟩,
    ⟨(some 40), .ld (.t 39) none, (some (38, true))⟩,
    ⟨(some 41), .fa (.t 3) 5, (some (38, true))⟩,
    ⟨(some 42), .ld (.t 41) none, (some (38, true))⟩,
    ⟨(some 43), .bin .eql (.t 40) (.t 42), (some (38, true))⟩,
    ⟨(some 44), .pick (.t 38) (.t 43) (.k (.bool false)), none⟩,
    ⟨(some 45), .mv (.t 44), none⟩,
    ⟨(some 46), .fa (.t 2) 6, (some (45, true))⟩,
    ⟨(some 47), .ld (.t 46) none, (some (45, true))⟩,
    ⟨(some 48), .fa (.t 3) 6, (some (45, true))⟩,
    ⟨(some 49), .ld (.t 48) none, (some (45, true))⟩,
    ⟨(some 50), .bin .eql (.t 47) (.t 49), (some (45, true))⟩,
    ⟨(some 51), .pick (.t 45) (.t 50) (.k (.bool false)), none⟩,
    ⟨(some 4), .mv (.t 51), none⟩])
  (.ret))⟩
def cc_slices_Equal_api_Rail_api_Rail : CFn := ⟨26, [.tmp 4],
  .seq (.reg [
    ⟨(some 4), .mv (.k (.bool false)), none⟩])
  (.join (.seq (.reg [
     ⟨(some 6), .mv (.t 0), none⟩,
     ⟨(some 7), .lenS (.t 6), none⟩,
     ⟨(some 8), .mv (.t 1), none⟩,
     ⟨(some 9), .lenS (.t 8), none⟩,
     ⟨(some 10), .bin .neq (.t 7) (.t 9), none⟩])
   (.cond (.t 10) (.seq (.reg [
      ⟨(some 4), .mv (.k (.bool false)), none⟩])
    (.ret))
    (.skip)))
  (.join (.seq (.reg [
     ⟨(some 11), .mv (.t 0), none⟩,
     ⟨(some 12), .lenS (.t 11), none⟩,
     ⟨(some 13), .mv (.k (.int .i64 0)), none⟩])
   (.block 0 (.loop (.seq (.reg [
       ⟨(some 14), .bin .lss (.t 13) (.t 12), none⟩])
     (.join (.cond (.t 14) (.skip)
       (.exit 0))
     (.join (.block 1 (.seq (.reg [
         ⟨(some 15), .mv (.t 13), none⟩,
         ⟨(some 5), .mv (.t 15), none⟩])
       (.seq (.reg [
         ⟨(some 16), .mv (.t 0), none⟩,
         ⟨(some 17), .mv (.t 5), none⟩,
         ⟨(some 18), .iaS (.t 16) (.t 17) 11, none⟩,
         ⟨(some 19), .ld (.t 18) (some 11), none⟩,
         ⟨(some 20), .mv (.t 1), none⟩,
         ⟨(some 21), .mv (.t 5), none⟩,
         ⟨(some 22), .iaS (.t 20) (.t 21) 11, none⟩,
         ⟨(some 23), .ld (.t 22) (some 11), none⟩,
         ⟨(some 24), .eqc [.i, .i, .i, .i, .i, .i, .i, .i, .i, .i, .i] true (.t 19) (.t 23), none⟩])
       (.cond (.t 24) (.seq (.reg [
          ⟨(some 4), .mv (.k (.bool false)), none⟩])
        (.ret))
        (.skip)))))
     (.reg [
       ⟨(some 25), .bin .add (.t 13) (.k (.int .i64 1)), none⟩,
       ⟨(some 13), .mv (.t 25), none⟩])))))))
  (.seq (.reg [
    ⟨(some 4), .mv (.k (.bool true)), none⟩])
  (.ret))))⟩
def cc_slices_Equal_api_Bus_api_Bus : CFn := ⟨26, [.tmp 4],
  .seq (.reg [
    ⟨(some 4), .mv (.k (.bool false)), none⟩])
  (.join (.seq (.reg [
     ⟨(some 6), .mv (.t 0), none⟩,
     ⟨(some 7), .lenS (.t 6), none⟩,
     ⟨(some 8), .mv (.t 1), none⟩,
     ⟨(some 9), .lenS (.t 8), none⟩,
     ⟨(some 10), .bin .neq (.t 7) (.t 9), none⟩])
   (.cond (.t 10) (.seq (.reg [
      ⟨(some 4), .mv (.k (.bool false)), none⟩])
    (.ret))
    (.skip)))
  (.join (.seq (.reg [
     ⟨(some 11), .mv (.t 0), none⟩,
     ⟨(some 12), .lenS (.t 11), none⟩,
     ⟨(some 13), .mv (.k (.int .i64 0)), none⟩])
   (.block 0 (.loop (.seq (.reg [
       ⟨(some 14), .bin .lss (.t 13) (.t 12), none⟩])
     (.join (.cond (.t 14) (.skip)
       (.exit 0))
     (.join (.block 1 (.seq (.reg [
         ⟨(some 15), .mv (.t 13), none⟩,
         ⟨(some 5), .mv (.t 15), none⟩])
       (.seq (.reg [
         ⟨(some 16), .mv (.t 0), none⟩,
         ⟨(some 17), .mv (.t 5), none⟩,
         ⟨(some 18), .iaS (.t 16) (.t 17) 2, none⟩,
         ⟨(some 19), .ld (.t 18) (some 2), none⟩,
         ⟨(some 20), .mv (.t 1), none⟩,
         ⟨(some 21), .mv (.t 5), none⟩,
         ⟨(some 22), .iaS (.t 20) (.t 21) 2, none⟩,
         ⟨(some 23), .ld (.t 22) (some 2), none⟩,
         ⟨(some 24), .eqc [.i, .i] true (.t 19) (.t 23), none⟩])
       (.cond (.t 24) (.seq (.reg [
          ⟨(some 4), .mv (.k (.bool false)), none⟩])
        (.ret))
        (.skip)))))
     (.reg [
       ⟨(some 25), .bin .add (.t 13) (.k (.int .i64 1)), none⟩,
       ⟨(some 13), .mv (.t 25), none⟩])))))))
  (.seq (.reg [
    ⟨(some 4), .mv (.k (.bool true)), none⟩])
  (.ret))))⟩
def cc_table_bits : CFn := ⟨10, [.tmp 4],
  .seq (.reg [
    ⟨(some 4), .mv (.k (.bool false)), none⟩])
  (.seq (.reg [
    ⟨(some 5), .mv (.t 0), none⟩,
    ⟨(some 6), .xt .fbits (.t 5), none⟩,
    ⟨(some 7), .mv (.t 1), none⟩,
    ⟨(some 8), .xt .fbits (.t 7), none⟩,
    ⟨(some 9), .bin .eql (.t 6) (.t 8), none⟩,
    ⟨(some 4), .mv (.t 9), none⟩])
  (.ret))⟩
end Go.Eng
