/- The engine and the library,part 6 of 16: what the proofs of this seat need of them. -/
import Derived.Test.YtdfplndcbbofjaaGreatPk5
set_option linter.unnecessarySimpa false
set_option linter.unusedSimpArgs false
set_option linter.unusedVariables false
set_option linter.defProp false
set_option maxRecDepth 10000
set_option maxHeartbeats 4000000
namespace Go.Eng
open Go
class Kn (α:Type) where
 run:α→Prop
class Vc where
 run:SV→List (Nat × Nat)→Prop
def wv {α:Type} (o:Option α) [k:Kn α]:Prop:=ak o k.run
theorem c8 {α:Type} (o:Option α) (k:α→Prop):ak o k=@wv α o ⟨k⟩:=rfl
theorem N4 {α:Type} (a:α) (k:α→Prop):@wv α (some a) ⟨k⟩=k a:=rfl
theorem N5 {α:Type} (k:α→Prop):@wv α none ⟨k⟩=False:=rfl
theorem QE {α:Type} {o:Option α} {k:α→Prop} (a:α) (h:o=some a) (hk:k a):@wv α o ⟨k⟩:=by subst h; exact hk
def yU (C:bk) (f:Nat) (as:List AV) (id:Nat) (lv:List (Nat × Nat)) (k:SV→List (Nat × Nat)→Prop):Prop :=
 ∃ r fr,C.c f as r fr∧k (.dat r (fr.map fun _=>id)) (match fr with | some e=>(id,e) :: lv | none=>lv)
def cl (C:bk) (f:Nat) (as:List AV) (id:Nat) (lv:List (Nat × Nat)) [k:Vc]:Prop:=yU C f as id lv k.run
theorem dn (C:bk) (f:Nat) (as:List AV) (id:Nat) (lv:List (Nat × Nat)) (k:SV→List (Nat × Nat)→Prop):yU C f as id lv k=@cl C f as id lv ⟨k⟩:=rfl
@[congr] theorem TF {C:bk} (f:Nat) {as as':List AV} (id:Nat) (lv:List (Nat × Nat)) (k:SV→List (Nat × Nat)→Prop) (h:as=as'):yU C f as id lv k=yU C f as' id lv k:=by rw [h]
theorem af {C:bk} {f:Nat} {as:List AV} {id:Nat} {lv:List (Nat × Nat)} {k:SV→List (Nat × Nat)→Prop} {r:AV} (h:C.c f as r none) (hk:k (.dat r none) lv):@cl C f as id lv ⟨k⟩:=⟨r,none,h,hk⟩
theorem I9 {C:bk} {f:Nat} {as:List AV} {id:Nat} {lv:List (Nat × Nat)} {k:SV→List (Nat × Nat)→Prop} {r:AV} {e:Nat} (h:C.c f as r (some e)) (hk:k (.dat r (some id)) ((id,e) :: lv)):@cl C f as id lv ⟨k⟩:=⟨r,some e,h,hk⟩
class Vd where
 run:SV→List (Nat × dO)→List (Nat × Nat)→Prop
def BV (C:bk) (f:Nat) (css:List (List AV)) (as:List (Option AV)) (ids:List Nat) (id:Nat) (bx:List (Nat × dO)) (lv:List (Nat × Nat)) (k:SV→List (Nat × dO)→List (Nat × Nat)→Prop):Prop :=
 ∃ r fr css',C.p f css as r fr css'∧k (.dat r (fr.map fun _=>id)) (gA ids css' bx) (match fr with | some e=>(id,e) :: lv | none=>lv)
def UO (C:bk) (f:Nat) (css:List (List AV)) (as:List (Option AV)) (ids:List Nat) (id:Nat) (bx:List (Nat × dO)) (lv:List (Nat × Nat)) [k:Vd]:Prop:=BV C f css as ids id bx lv k.run
theorem bI (C:bk) (f:Nat) (css:List (List AV)) (as:List (Option AV)) (ids:List Nat) (id:Nat) (bx:List (Nat × dO)) (lv:List (Nat × Nat)) (k:SV→List (Nat × dO)→List (Nat × Nat)→Prop):BV C f css as ids id bx lv k=@UO C f css as ids id bx lv ⟨k⟩:=rfl
theorem aS {C:bk} {f:Nat} {css:List (List AV)} {as:List (Option AV)} {ids:List Nat} {id:Nat} {bx:List (Nat × dO)} {lv:List (Nat × Nat)} {k:SV→List (Nat × dO)→List (Nat × Nat)→Prop} {r:AV} {css':List (List AV)} (h:C.p f css as r none css') (hk:k (.dat r none) (gA ids css' bx) lv):@UO C f css as ids id bx lv ⟨k⟩:=⟨r,none,css',h,hk⟩
class Ve where
 run:SV→Prop
def BW (C:bk) (f:Nat) (css:List (List AV)) (as:List (Option AV)) (k:SV→Prop):Prop:=∃ r,C.p f css as r none css∧k (.dat r none)
def UP (C:bk) (f:Nat) (css:List (List AV)) (as:List (Option AV)) [k:Ve]:Prop:=BW C f css as k.run
theorem QF (C:bk) (f:Nat) (css:List (List AV)) (as:List (Option AV)) (k:SV→Prop):BW C f css as k=@UP C f css as ⟨k⟩:=rfl
theorem bX {C:bk} {f:Nat} {css:List (List AV)} {as:List (Option AV)} {k:SV→Prop} {r:AV} (h:C.p f css as r none css) (hk:k (.dat r none)):@UP C f css as ⟨k⟩:=⟨r,h,hk⟩
def Gn (x:Option dO) (y:Option (List (List AV))):Option (List (List AV)) :=
 match x,y with
 | some ⟨cs,[]⟩,some css=>some (cs :: css)
 | _,_=>none
theorem N6 (ro:List Nat) (i:Nat):mX ro i []=[]:=rfl
theorem QG (ro:List Nat) (i:Nat) (o:CO) (r:List CO):mX ro i (o :: r)=(bif ro.contains i then o.ro else o) :: mX ro (i + 1) r:=rfl
theorem TX (d:Option Nat) (o:bU) (g:Option (Nat × Bool)):CO.ro ⟨d,o,g⟩=⟨d,o.ro,g⟩:=rfl
theorem QH (f:Nat) (as:List bV):bU.ro (.bT f as)=.ye f as:=rfl
theorem QI (g:bV) (as:List bV):bU.ro (.gz g as)=.qq g as:=rfl
section
variable {C:bk} {Q:Exit→S→Prop} {K:SV→S→Prop} {J:S→Prop}
variable (sl:List (Nat × SV)) (bx:List (Nat × dO)) (lv:List (Nat × Nat)) (nx:Nat)
theorem Dl (n m:Nat) (v:SV) (r:List (Nat × SV)):lk n ((m,v) :: r)=bif n == m then some v else lk n r:=rfl
theorem xl (n m:Nat) (v:dO) (r:List (Nat × dO)):cL n ((m,v) :: r)=bif n == m then some v else cL n r:=rfl
theorem uL (n m:Nat) (v:Nat) (r:List (Nat × Nat)):eA n ((m,v) :: r)=bif n == m then some v else eA n r:=rfl
theorem qK (n:Nat):eA n []=none:=rfl
theorem N7 (n m:Nat) (b v:dO) (r:List (Nat × dO)):qk n b ((m,v) :: r)=bif n == m then (m,b) :: r else (m,v) :: qk n b r:=rfl
theorem N8 (n m:Nat) (v:Nat) (r:List (Nat × Nat)):qm n ((m,v) :: r)=bif n == m then qm n r else (m,v) :: qm n r:=rfl
theorem Lt (n:Nat):qm n []=[]:=rfl
theorem QJ (d:Nat) (v:SV):S.put ⟨sl,bx,lv,nx⟩ (some d) v=⟨(d,v) :: sl,bx,lv,nx⟩:=rfl
theorem N9 (v:SV):S.put ⟨sl,bx,lv,nx⟩ none v=⟨sl,bx,lv,nx⟩:=rfl
theorem Oa (n:Nat):cM ⟨sl,bx,lv,nx⟩ (.t n)=lk n sl:=rfl
theorem Ob (v:AV):cM ⟨sl,bx,lv,nx⟩ (.k v)=some (.dat v none):=rfl
def Hy:Option SV→Option AV
 | some (.dat a _)=>some a
 | some (.rp cs)=>some (.ref cs)
 | _=>none
theorem Lu (cs:List AV):Hy (some (.rp cs))=some (.ref cs):=rfl
theorem Oc (a:AV) (q:Option Nat):Hy (some (.dat a q))=some a:=rfl
theorem Lv (n:Nat):aG ⟨sl,bx,lv,nx⟩ (.t n)=Hy (lk n sl):=rfl
theorem Lw (v:AV):aG ⟨sl,bx,lv,nx⟩ (.k v)=some v:=rfl
def Nr:Option AV→Option (List AV)→Option (List AV)
 | some a,some as=>some (a :: as)
 | _,_=>none
theorem Lx (a:AV) (as:List AV):Nr (some a) (some as)=some (a :: as):=rfl
theorem Ly (x:bV) (r:List bV):dL ⟨sl,bx,lv,nx⟩ (x :: r)=Nr (aG ⟨sl,bx,lv,nx⟩ x) (dL ⟨sl,bx,lv,nx⟩ r):=rfl
theorem Ja:dL ⟨sl,bx,lv,nx⟩ []=some []:=rfl
theorem Lz (b i:Nat):je C b i [] J ⟨sl,bx,lv,nx⟩=J ⟨sl,bx,lv,nx⟩:=rfl
theorem Od (b i:Nat) (d:Option Nat) (o:bU) (r:List CO):je C b i (⟨d,o,none⟩ :: r) J ⟨sl,bx,lv,nx⟩=bS C (b + i) o (fun v s'=>je C b (i + 1) r J (s'.put d v)) ⟨sl,bx,lv,nx⟩:=rfl
def nF (want:Bool) (yes no:Prop):Option SV→Prop
 | some (.dat (.bool b) _)=>(b=want→yes)∧(b=!want→no)
 | some .undef=>no
 | _=>False
theorem LA (b i t:Nat) (w:Bool) (d:Option Nat) (o:bU) (r:List CO):je C b i (⟨d,o,some (t,w)⟩ :: r) J ⟨sl,bx,lv,nx⟩ =
  nF w (bS C (b + i) o (fun v s'=>je C b (i + 1) r J (s'.put d v)) ⟨sl,bx,lv,nx⟩) (je C b (i + 1) r J (S.put ⟨sl,bx,lv,nx⟩ d .undef)) (lk t sl):=by
 simp only [je,kE,nF]
 cases lk t sl with
 | none=>rfl
 | some v=>cases v with
  | dat a q=>cases a<;>rfl
  | ptr=>rfl
  | rp=>rfl
  | undef=>rfl
  | vs=>rfl
class KP where
 yes:Prop
 no:Prop
def gd (w:Bool) (v:Option SV) [k:KP]:Prop:=nF w k.yes k.no v
theorem dr (w:Bool) (yes no:Prop) (v:Option SV):nF w yes no v=@gd w v ⟨yes,no⟩:=rfl
theorem Jb (w:Bool) (yes no:Prop):@gd w (some .undef) ⟨yes,no⟩=no:=rfl
theorem Jc (yes no:Prop) (q:Option Nat):@gd true (some (.dat (.bool true) q)) ⟨yes,no⟩=yes:=by simp [gd,nF]
theorem Hz (yes no:Prop) (q:Option Nat):@gd true (some (.dat (.bool false) q)) ⟨yes,no⟩=no:=by simp [gd,nF]
theorem Jd (yes no:Prop) (q:Option Nat):@gd false (some (.dat (.bool false) q)) ⟨yes,no⟩=yes:=by simp [gd,nF]
theorem HA (yes no:Prop) (q:Option Nat):@gd false (some (.dat (.bool true) q)) ⟨yes,no⟩=no:=by simp [gd,nF]
theorem TY (id:Nat) (x:bV):bS C id (.mv x) K ⟨sl,bx,lv,nx⟩=ak (cM ⟨sl,bx,lv,nx⟩ x) fun v=>K v ⟨sl,bx,lv,nx⟩:=rfl
def yV (a b:Option SV) (k:SV→Prop):AV→Prop
 | .bool t=>ak a fun u=>ak b fun v=>(t=true→k u)∧(t=false→k v)
 | _=>False
theorem Oe (id:Nat) (c a b:bV):bS C id (.pick c a b) K ⟨sl,bx,lv,nx⟩=ak (aG ⟨sl,bx,lv,nx⟩ c) (yV (cM ⟨sl,bx,lv,nx⟩ a) (cM ⟨sl,bx,lv,nx⟩ b) fun v=>K v ⟨sl,bx,lv,nx⟩):=rfl
def pk (a b:Option SV) (c:AV) [k:Kn SV]:Prop:=yV a b k.run c
theorem dw (a b:Option SV) (k:SV→Prop) (c:AV):yV a b k c=@pk a b c ⟨k⟩:=rfl
theorem LB (k:SV→Prop) (b:Option SV) (v:SV):@pk (some v) b (.bool true) ⟨k⟩=ak b fun _=>k v:=by simp [pk,yV]
theorem LC (k:SV→Prop) (a:Option SV) (v:SV):@pk a (some v) (.bool false) ⟨k⟩=ak a fun _=>k v:=by
 cases a<;>simp [pk,yV]
theorem LD (id:Nat) (cs:List AV):bS C id (.alloc cs) K ⟨sl,bx,lv,nx⟩=K (.ptr id 0) ⟨sl,(id,⟨cs,[]⟩) :: bx,lv,nx⟩:=rfl
theorem QK (id:Nat) (x:bV):bS C id (.box x) K ⟨sl,bx,lv,nx⟩=ak (aG ⟨sl,bx,lv,nx⟩ x) fun a=>jc a none=true∧K (.ptr id 0) ⟨sl,(id,⟨a.cells,[]⟩) :: bx,lv,nx⟩:=rfl
def Ql (sz:Option Nat) (bx:List (Nat × dO)) (k:SV→Prop):SV→Prop
 | .ptr b off=>ak (cL b bx) fun x=>ak (aD x.cells off sz) fun a=>k (.dat a (match sz with | none=>eA off x.tags | some _=>none))
 | .rp cs=>ak (aD cs 0 sz) fun a=>k (.dat a none)
 | _=>False
theorem TZ (id:Nat) (x:bV) (sz:Option Nat):bS C id (.ld x sz) K ⟨sl,bx,lv,nx⟩=ak (cM ⟨sl,bx,lv,nx⟩ x) (Ql sz bx fun v=>K v ⟨sl,bx,lv,nx⟩):=rfl
theorem Of (k:SV→Prop) (b off:Nat):Ql none bx k (.ptr b off)=ak (cL b bx) fun x=>ak (aD x.cells off none) fun a=>k (.dat a (eA off x.tags)):=rfl
theorem Og (k:SV→Prop) (b off n:Nat):Ql (some n) bx k (.ptr b off)=ak (cL b bx) fun x=>ak (aD x.cells off (some n)) fun a=>k (.dat a none):=rfl
theorem QL (k:SV→Prop) (sz:Option Nat) (cs:List AV):Ql sz bx k (.rp cs)=ak (aD cs 0 sz) fun a=>k (.dat a none):=rfl
def aZ (off sz:Nat) (q:Option Nat) (tags:List (Nat × Nat)):List (Nat × Nat) :=
 match q with
 | some q=>(off,q) :: tags.filter (fun p=>p.1 < off || off + sz≤p.1)
 | none=>tags.filter (fun p=>p.1 < off || off + sz≤p.1)
def QM (sz off:Nat) (x:dO) (k:dO→Prop):SV→Prop
 | .dat a q=>jc a q=true∧a.cells.length=sz∧off + sz≤x.cells.length∧k ⟨setCells x.cells off a.cells,aZ off sz q x.tags⟩
 | _=>False
def TH (sz:Nat) (bx:List (Nat × dO)) (v:Option SV) (k:List (Nat × dO)→Prop):SV→Prop
 | .ptr b off=>ak (cL b bx) fun x=>ak v (QM sz off x fun y=>k (qk b y bx))
 | _=>False
theorem T6 (id:Nat) (x v:bV) (sz:Nat):bS C id (.st x v sz) K ⟨sl,bx,lv,nx⟩=ak (cM ⟨sl,bx,lv,nx⟩ x) (TH sz bx (cM ⟨sl,bx,lv,nx⟩ v) fun b=>K .undef ⟨sl,b,lv,nx⟩):=by
 show ak _ _=ak _ _
 cases hx:cM ⟨sl,bx,lv,nx⟩ x with
 | none=>rfl
 | some p=>cases p with
  | ptr b off =>
   show ak _ _=ak _ _
   cases hb:cL b bx with
   | none=>rfl
   | some y =>
    show ak _ _=ak _ _
    cases hv:cM ⟨sl,bx,lv,nx⟩ v with
    | none=>rfl
    | some u=>cases u with
     | dat a q=>cases q<;>rfl
     | _=>rfl
  | _=>rfl
theorem QN (sz b off:Nat) (v:Option SV) (k:List (Nat × dO)→Prop):TH sz bx v k (.ptr b off)=ak (cL b bx) fun x=>ak v (QM sz off x fun y=>k (qk b y bx)):=rfl
theorem QO (sz off:Nat) (cs:List AV) (tg:List (Nat × Nat)) (k:dO→Prop) (a:AV) (q:Option Nat):QM sz off ⟨cs,tg⟩ k (.dat a q)=(jc a q=true∧a.cells.length=sz∧off + sz≤cs.length∧k ⟨setCells cs off a.cells,aZ off sz q tg⟩):=rfl
theorem LF (off sz:Nat):aZ off sz none []=[]:=rfl
theorem LG (off sz q:Nat):aZ off sz (some q) []=[(off,q)]:=rfl
def QS (off:Nat) (k:SV→Prop):SV→Prop
 | .ptr b o=>k (.ptr b (o + off))
 | .rp cs=>k (.rp (cs.drop off))
 | _=>False
theorem T7 (id:Nat) (x:bV) (off:Nat):bS C id (.fa x off) K ⟨sl,bx,lv,nx⟩=ak (cM ⟨sl,bx,lv,nx⟩ x) (QS off fun v=>K v ⟨sl,bx,lv,nx⟩):=rfl
theorem QT (k:SV→Prop) (b o off:Nat):QS off k (.ptr b o)=k (.ptr b (o + off)):=rfl
theorem QU (k:SV→Prop) (cs:List AV) (off:Nat):QS off k (.rp cs)=k (.rp (cs.drop off)):=rfl
def QV (d:Nat) (k:SV→Prop):SV→Prop
 | .ptr b o=>k (.ptr b (o + d))
 | .rp cs=>k (.rp (cs.drop d))
 | _=>False
theorem QW (id:Nat) (x i:bV) (n z:Nat):bS C id (.Hf x i n z) K ⟨sl,bx,lv,nx⟩=ak (cM ⟨sl,bx,lv,nx⟩ x) fun p=>ak (aG ⟨sl,bx,lv,nx⟩ i) fun a=>ak (idxOf a) fun i=>(0≤i∧i < n)∧QV (i.toNat * z) (fun v=>K v ⟨sl,bx,lv,nx⟩) p:=rfl
theorem QX (k:SV→Prop) (b o d:Nat):QV d k (.ptr b o)=k (.ptr b (o + d)):=rfl
theorem QY (k:SV→Prop) (cs:List AV) (d:Nat):QV d k (.rp cs)=k (.rp (cs.drop d)):=rfl
theorem QZ (k:IntKind) (i:Int):idxOf (.int k i)=some i:=rfl
theorem Q0 (id:Nat) (x i:bV) (z:Nat):bS C id (.NI x i z) K ⟨sl,bx,lv,nx⟩=ak (aG ⟨sl,bx,lv,nx⟩ x) fun l=>ak (aG ⟨sl,bx,lv,nx⟩ i) fun a=>ak (idxOf a) fun i=>ak (rowsOf l) fun xs=>(0≤i∧i < xs.length)∧ak (xs[i.toNat]?) fun row=>row.length=z∧K (.rp row) ⟨sl,bx,lv,nx⟩:=rfl
theorem Oh (xs:List (List AV)):rowsOf (.sl xs)=some xs:=rfl
theorem LH:rowsOf .bw=some []:=rfl
def Fh (k:List AV→Prop):AV→Prop
 | .agg cs=>k cs
 | _=>False
theorem Q1 (k:List AV→Prop) (cs:List AV):Fh k (.agg cs)=k cs:=rfl
theorem Q2 (id:Nat) (x:bV) (off:Nat) (sz:Option Nat):bS C id (.BG x off sz) K ⟨sl,bx,lv,nx⟩=ak (aG ⟨sl,bx,lv,nx⟩ x) (Fh fun cs=>ak (aD cs off sz) fun a=>K (.dat a none) ⟨sl,bx,lv,nx⟩):=rfl
theorem Q3 (id:Nat) (x i:bV) (n z:Nat) (sz:Option Nat):bS C id (.CY x i n z sz) K ⟨sl,bx,lv,nx⟩=ak (aG ⟨sl,bx,lv,nx⟩ x) (Fh fun cs=>ak (aG ⟨sl,bx,lv,nx⟩ i) fun a=>ak (idxOf a) fun i=>(0≤i∧i < n)∧ak (aD cs (i.toNat * z) sz) fun a=>K (.dat a none) ⟨sl,bx,lv,nx⟩):=rfl
theorem Q4 (id:Nat) (op:BinOp) (x y:bV):bS C id (.bin op x y) K ⟨sl,bx,lv,nx⟩=ak (aG ⟨sl,bx,lv,nx⟩ x) fun a=>ak (aG ⟨sl,bx,lv,nx⟩ y) fun b=>ak (dF op a b) fun v=>K (.dat v none) ⟨sl,bx,lv,nx⟩:=rfl
theorem Q5 (id:Nat) (ks:List CK) (neg:Bool) (x y:bV):bS C id (.eqc ks neg x y) K ⟨sl,bx,lv,nx⟩=ak (aG ⟨sl,bx,lv,nx⟩ x) (Fh fun as=>ak (aG ⟨sl,bx,lv,nx⟩ y) (Fh fun bs=>ak (dm ks as bs) fun e=>K (.dat (.bool (e != neg)) none) ⟨sl,bx,lv,nx⟩)):=rfl
theorem T8 (id:Nat) (neg:Bool) (x y:bV):bS C id (.bb neg x y) K ⟨sl,bx,lv,nx⟩=ak (aG ⟨sl,bx,lv,nx⟩ x) fun a=>ak (aG ⟨sl,bx,lv,nx⟩ y) fun b=>ak (Qh neg a b) fun v=>K (.dat v none) ⟨sl,bx,lv,nx⟩:=rfl
theorem T9 (id:Nat) (op:UnOp) (x:bV):bS C id (.un op x) K ⟨sl,bx,lv,nx⟩=ak (aG ⟨sl,bx,lv,nx⟩ x) fun a=>ak (NL op a) fun v=>K (.dat v none) ⟨sl,bx,lv,nx⟩:=rfl
theorem Oi (id:Nat) (k:IntKind) (x:bV):bS C id (.tr k x) K ⟨sl,bx,lv,nx⟩=ak (aG ⟨sl,bx,lv,nx⟩ x) fun a=>ak (AR k a) fun v=>K (.dat v none) ⟨sl,bx,lv,nx⟩:=rfl
theorem Oj (id:Nat) (k:FloatKind) (x:bV):bS C id (.AA k x) K ⟨sl,bx,lv,nx⟩=ak (aG ⟨sl,bx,lv,nx⟩ x) fun a=>ak (yg k a) fun v=>K (.dat v none) ⟨sl,bx,lv,nx⟩:=rfl
theorem Ol (id:Nat) (k:IntKind) (x:bV):bS C id (.CZ k x) K ⟨sl,bx,lv,nx⟩=ak (aG ⟨sl,bx,lv,nx⟩ x) fun a=>ak (wS k a) fun v=>K (.dat v none) ⟨sl,bx,lv,nx⟩:=rfl
theorem Om (id:Nat) (x:bV):bS C id (.Hg x) K ⟨sl,bx,lv,nx⟩=ak (aG ⟨sl,bx,lv,nx⟩ x) fun a=>ak (xG a) fun v=>K (.dat v none) ⟨sl,bx,lv,nx⟩:=rfl
theorem Ua (id:Nat) (e:Xt) (x:bV):bS C id (.xt e x) K ⟨sl,bx,lv,nx⟩=ak (aG ⟨sl,bx,lv,nx⟩ x) fun a=>ak (Qi e a) fun v=>K (.dat v none) ⟨sl,bx,lv,nx⟩:=rfl
theorem Ub (b:Nat):Qi .CX (.float .f64 b)=some (.int .u64 b):=rfl
theorem Uc (n:Int):Qi .ffrom (.int .u64 n)=some (.float .f64 n.toNat):=rfl
theorem Ud (b:Nat):Qi .rte (.float .f64 b)=BI b:=rfl
def Oo (n z:Nat) (s:S) (k:SV→S→Prop):SV→Prop
 | .rp cs=>n * z≤cs.length∧k (.dat (.sl (cJ z n cs)) none) s
 | .ptr b off=>4≤b∧ak (cL b s.boxes) fun bx=>n * z≤(bx.cells.drop off).length∧k (.dat (.sl (cJ z n (bx.cells.drop off))) none) (gB [b] [bx.cells] s)
 | _=>False
theorem Q6 (id:Nat) (x:bV) (n z:Nat):bS C id (.Nk x n z) K ⟨sl,bx,lv,nx⟩=ak (cM ⟨sl,bx,lv,nx⟩ x) (Oo n z ⟨sl,bx,lv,nx⟩ K):=by
 show ak _ _=ak _ _
 cases cM ⟨sl,bx,lv,nx⟩ x with
 | none=>rfl
 | some v=>cases v<;>rfl
theorem Oq (n z:Nat) (s:S) (k:SV→S→Prop) (cs:List AV):Oo n z s k (.rp cs)=(n * z≤cs.length∧k (.dat (.sl (cJ z n cs)) none) s):=rfl
theorem Ot (n z:Nat) (k:SV→S→Prop) (b off:Nat):Oo n z ⟨sl,bx,lv,nx⟩ k (.ptr b off)=(4≤b∧ak (cL b bx) fun y=>n * z≤(y.cells.drop off).length∧k (.dat (.sl (cJ z n (y.cells.drop off))) none) (gB [b] [y.cells] ⟨sl,bx,lv,nx⟩)):=rfl
def Q7 (s:S) (i:bV) (k:AV→Prop):AV→Prop
 | .str b=>ak (aG s i) fun a=>ak (idxOf a) fun j=>ak (F2 b j) k
 | _=>False
theorem Q8 (id:Nat) (x i:bV):bS C id (.Qy x i) K ⟨sl,bx,lv,nx⟩=ak (aG ⟨sl,bx,lv,nx⟩ x) (Q7 ⟨sl,bx,lv,nx⟩ i fun v=>K (.dat v none) ⟨sl,bx,lv,nx⟩):=by
 show ak _ _=ak _ _
 cases aG ⟨sl,bx,lv,nx⟩ x with
 | none=>rfl
 | some v=>cases v<;>rfl
theorem Ou (s:S) (i:bV) (k:AV→Prop) (b:ByteArray):Q7 s i k (.str b)=ak (aG s i) fun a=>ak (idxOf a) fun j=>ak (F2 b j) k:=rfl
theorem Ov (id n:Nat):bS C id (.IF n) K ⟨sl,bx,lv,nx⟩=K (.dat (.int .i64 n) none) ⟨sl,bx,lv,nx⟩:=rfl
theorem Ow (id f:Nat) (args:List bV):bS C id (.call f args) K ⟨sl,bx,lv,nx⟩=ak (dL ⟨sl,bx,lv,nx⟩ args) fun as=>yU C f as id lv fun v l=>K v ⟨sl,bx,l,nx⟩:=rfl
def BX (C:bk) (id:Nat) (lv:List (Nat × Nat)) (as:List AV) (k:SV→List (Nat × Nat)→Prop):AV→Prop
 | .fn (.func f) first caps=>yU C f (first++as++caps) id lv k
 | _=>False
@[congr] theorem Q9 (id:Nat) (lv:List (Nat × Nat)) (as:List AV) (k:SV→List (Nat × Nat)→Prop) {v v':AV} (h:v=v'):BX C id lv as k v=BX C id lv as k v':=by rw [h]
def Dm:Option SV→Option (List (Option AV) × List Nat)→Option (List (Option AV) × List Nat)
 | some (.dat a _),some p=>some (some a :: p.1,p.2)
 | some (.rp cs),some p=>some (some (.ref cs) :: p.1,p.2)
 | some (.ptr b 0),some p=>some (none :: p.1,b :: p.2)
 | _,_=>none
theorem Je (a:AV) (q:Option Nat) (p:List (Option AV) × List Nat):Dm (some (.dat a q)) (some p)=some (some a :: p.1,p.2):=rfl
theorem Jf (cs:List AV) (p:List (Option AV) × List Nat):Dm (some (.rp cs)) (some p)=some (some (.ref cs) :: p.1,p.2):=rfl
theorem Jg (b:Nat) (p:List (Option AV) × List Nat):Dm (some (.ptr b 0)) (some p)=some (none :: p.1,b :: p.2):=rfl
theorem Ox:eW ⟨sl,bx,lv,nx⟩ []=some ([],[]):=rfl
theorem Ra (x:bV) (r:List bV):eW ⟨sl,bx,lv,nx⟩ (x :: r)=Dm (cM ⟨sl,bx,lv,nx⟩ x) (eW ⟨sl,bx,lv,nx⟩ r):=by
 show (match cM ⟨sl,bx,lv,nx⟩ x,eW ⟨sl,bx,lv,nx⟩ r with
  | some (.dat a _),some (as,bs)=>some (some a :: as,bs)
  | some (.rp cs),some (as,bs)=>some (some (.ref cs) :: as,bs)
  | some (.ptr b 0),some (as,bs)=>some (none :: as,b :: bs)
  | _,_=>none)=_
 unfold Dm
 cases cM ⟨sl,bx,lv,nx⟩ x with
 | none=>rfl
 | some v =>
  cases eW ⟨sl,bx,lv,nx⟩ r with
  | none=>cases v with
   | ptr b o=>cases o<;>rfl
   | _=>rfl
  | some p=>cases v with
   | ptr b o=>cases o<;>rfl
   | _=>rfl
theorem Jh:bM bx []=some []:=rfl
def Ns:Option dO→Option (List (List AV))→Option (List (List AV))
 | some x,some css=>some (x.cells :: css)
 | _,_=>none
theorem LI (x:dO) (css:List (List AV)):Ns (some x) (some css)=some (x.cells :: css):=rfl
theorem LJ (b:Nat) (bs:List Nat):bM bx (b :: bs)=Ns (cL b bx) (bM bx bs):=rfl
theorem Ji:eM []=true:=rfl
theorem LK (b:Nat) (bs:List Nat):eM (b :: bs)=(!bs.contains b && eM bs):=rfl
theorem LL (b:Nat) (bs:List Nat) (cs:List AV) (css:List (List AV)):gA (b :: bs) (cs :: css) bx=gA bs css (qk b ⟨cs,[]⟩ bx):=rfl
theorem HB:dU bx []=some []:=rfl
theorem Jj (b:Nat) (bs:List Nat):dU bx (b :: bs)=Gn (cL b bx) (dU bx bs):=rfl
theorem HC (cs:List AV) (css:List (List AV)):Gn (some ⟨cs,[]⟩) (some css)=some (cs :: css):=rfl
theorem Jk (css:List (List AV)):gA [] css bx=bx:=rfl
def BY (C:bk) (f id:Nat) (bx:List (Nat × dO)) (lv:List (Nat × Nat)) (k:SV→List (Nat × dO)→List (Nat × Nat)→Prop) (p:List (Option AV) × List Nat):Prop :=
 eM p.2=true∧ak (bM bx p.2) fun css=>BV C f css p.1 p.2 id bx lv k
theorem Jl (f id:Nat) (as:List (Option AV)) (ids:List Nat) (k:SV→List (Nat × dO)→List (Nat × Nat)→Prop):BY C f id bx lv k (as,ids)=(eM ids=true∧ak (bM bx ids) fun css=>BV C f css as ids id bx lv k):=rfl
theorem LM (id f:Nat) (args:List bV):bS C id (.bT f args) K ⟨sl,bx,lv,nx⟩=ak (eW ⟨sl,bx,lv,nx⟩ args) (BY C f id bx lv fun v b l=>K v ⟨sl,b,l,nx⟩):=rfl
theorem LN (id:Nat) (g:bV) (args:List bV):bS C id (.qo g args) K ⟨sl,bx,lv,nx⟩=ak (aG ⟨sl,bx,lv,nx⟩ g) fun a=>ak (dL ⟨sl,bx,lv,nx⟩ args) fun as=>BX C id lv as (fun v l=>K v ⟨sl,bx,l,nx⟩) a:=by
 show ak _ _=ak _ _
 cases hx:aG ⟨sl,bx,lv,nx⟩ g with
 | none=>rfl
 | some a =>
  show (match a with | .fn (.func f) first caps=>_ | _=>False)=_
  cases hy:dL ⟨sl,bx,lv,nx⟩ args with
  | none=>cases a<;>first | rfl | (rename_i f _ _; cases f<;>rfl)
  | some as=>cases a<;>first | rfl | (rename_i f _ _; cases f<;>rfl)
theorem Jm (id f:Nat) (as first caps:List AV) (k:SV→List (Nat × Nat)→Prop):BX C id lv as k (.fn (.func f) first caps)=yU C f (first++as++caps) id lv k:=rfl
def xQ (C:bk) (id:Nat) (bx:List (Nat × dO)) (lv:List (Nat × Nat)) (p:List (Option AV) × List Nat) (k:SV→List (Nat × dO)→List (Nat × Nat)→Prop):AV→Prop
 | .fn (.func f) [] []=>BY C f id bx lv k p
 | _=>False
@[congr] theorem Qm (id:Nat) (bx:List (Nat × dO)) (lv:List (Nat × Nat)) {p p':List (Option AV) × List Nat} (k:SV→List (Nat × dO)→List (Nat × Nat)→Prop) {v v':AV} (h1:p=p') (h:v=v'):xQ C id bx lv p k v=xQ C id bx lv p' k v':=by rw [h,h1]
theorem Jn (id:Nat) (g:bV) (args:List bV):bS C id (.gz g args) K ⟨sl,bx,lv,nx⟩=ak (aG ⟨sl,bx,lv,nx⟩ g) fun a=>ak (eW ⟨sl,bx,lv,nx⟩ args) fun p=>xQ C id bx lv p (fun v b l=>K v ⟨sl,b,l,nx⟩) a:=by
 show ak _ _=ak _ _
 cases hx:aG ⟨sl,bx,lv,nx⟩ g with
 | none=>rfl
 | some a =>
  show (match a with | .fn (.func f) [] []=>_ | _=>False)=_
  cases hy:eW ⟨sl,bx,lv,nx⟩ args with
  | none=>cases a<;>first | rfl | (rename_i f x y; cases f<;>first | rfl | (cases x<;>first | rfl | (cases y<;>rfl)))
  | some as=>cases a<;>first | rfl | (rename_i f x y; cases f<;>first | rfl | (cases x<;>first | rfl | (cases y<;>rfl)))
def BZ (C:bk) (f:Nat) (bx:List (Nat × dO)) (k:SV→Prop) (p:List (Option AV) × List Nat):Prop :=
 eM p.2=true∧ak (dU bx p.2) fun css=>BW C f css p.1 k
theorem LO (id f:Nat) (args:List bV):bS C id (.ye f args) K ⟨sl,bx,lv,nx⟩=ak (eW ⟨sl,bx,lv,nx⟩ args) (BZ C f bx fun v=>K v ⟨sl,bx,lv,nx⟩):=rfl
theorem Jo (f:Nat) (as:List (Option AV)) (ids:List Nat) (k:SV→Prop):BZ C f bx k (as,ids)=(eM ids=true∧ak (dU bx ids) fun css=>BW C f css as k):=rfl
def xR (C:bk) (bx:List (Nat × dO)) (p:List (Option AV) × List Nat) (k:SV→Prop):AV→Prop
 | .fn (.func f) [] []=>BZ C f bx k p
 | _=>False
@[congr] theorem Qn (bx:List (Nat × dO)) {p p':List (Option AV) × List Nat} (k:SV→Prop) {v v':AV} (h1:p=p') (h:v=v'):xR C bx p k v=xR C bx p' k v':=by rw [h,h1]
theorem Jp (id:Nat) (g:bV) (args:List bV):bS C id (.qq g args) K ⟨sl,bx,lv,nx⟩=ak (aG ⟨sl,bx,lv,nx⟩ g) fun a=>ak (eW ⟨sl,bx,lv,nx⟩ args) fun p=>xR C bx p (fun v=>K v ⟨sl,bx,lv,nx⟩) a:=by
 show ak _ _=ak _ _
 cases hx:aG ⟨sl,bx,lv,nx⟩ g with
 | none=>rfl
 | some a =>
  show (match a with | .fn (.func f) [] []=>_ | _=>False)=_
  cases hy:eW ⟨sl,bx,lv,nx⟩ args with
  | none=>cases a<;>first | rfl | (rename_i f x y; cases f<;>first | rfl | (cases x<;>first | rfl | (cases y<;>rfl)))
  | some as=>cases a<;>first | rfl | (rename_i f x y; cases f<;>first | rfl | (cases x<;>first | rfl | (cases y<;>rfl)))
theorem HD (f:Nat) (p:List (Option AV) × List Nat) (k:SV→Prop):xR C bx p k (.fn (.func f) [] [])=BZ C f bx k p:=rfl
theorem HE (id f:Nat) (p:List (Option AV) × List Nat) (k:SV→List (Nat × dO)→List (Nat × Nat)→Prop):xQ C id bx lv p k (.fn (.func f) [] [])=BY C f id bx lv k p:=rfl
theorem Rb (id:Nat) (neg:Bool) (x:bV):bS C id (.NK neg x) K ⟨sl,bx,lv,nx⟩=ak (aG ⟨sl,bx,lv,nx⟩ x) fun a=>ak (C0 neg a) fun v=>K (.dat (.bool v) none) ⟨sl,bx,lv,nx⟩:=rfl
theorem Rc (id:Nat) (x:bV) (i:Nat):bS C id (.ext x i) K ⟨sl,bx,lv,nx⟩=ak (aG ⟨sl,bx,lv,nx⟩ x) fun a=>ak (IG a i) fun v=>K (.dat v none) ⟨sl,bx,lv,nx⟩:=rfl
theorem Oy (b:Nat) (cs:List AV) (b' o:Nat):qA b cs (.ptr b' o)=bif b' == b then .rp (cs.drop o) else .ptr b' o:=rfl
theorem Oz (b:Nat) (cs:List AV) (a:AV) (q:Option Nat):qA b cs (.dat a q)=.dat a q:=rfl
theorem OA (b:Nat) (cs cs':List AV):qA b cs (.rp cs')=.rp cs':=rfl
theorem OB (b:Nat) (cs:List AV):qA b cs .undef=.undef:=rfl
theorem LP (b:Nat) (cs:List AV):yl b cs []=[]:=rfl
theorem OC (b:Nat) (cs:List AV) (t:Nat) (v:SV) (r:List (Nat × SV)):yl b cs ((t,v) :: r)=(t,qA b cs v) :: yl b cs r:=rfl
theorem LQ (n:Nat):sS n []=[]:=rfl
theorem OD (n m:Nat) (v:dO) (r:List (Nat × dO)):sS n ((m,v) :: r)=bif n == m then sS n r else (m,v) :: sS n r:=rfl
theorem LR (css:List (List AV)) (s:S):gB [] css s=s:=rfl
theorem OE (b:Nat) (bs:List Nat) (cs:List AV) (css:List (List AV)):gB (b :: bs) (cs :: css) ⟨sl,bx,lv,nx⟩=gB bs css ⟨yl b cs sl,sS b bx,lv,nx⟩:=rfl
theorem Jq (css:List (List AV)):jd [] css=[]:=by cases css<;>rfl
theorem Jr (a:AV) (as:List (Option AV)) (css:List (List AV)):jd (some a :: as) css=a :: jd as css:=by cases css<;>rfl
theorem Js (as:List (Option AV)) (cs:List AV) (css:List (List AV)):jd (none :: as) (cs :: css)=.ref cs :: jd as css:=rfl
theorem OG:jI []=true:=rfl
theorem Re (b:Nat) (bs:List Nat):jI (b :: bs)=(decide (4≤b) && jI bs):=rfl
def Rf (fn:Fn) (as:List AV) (s:S) (k:SV→S→Prop) (p:List (Option AV) × List Nat):Prop :=
 (eM p.2 && jI p.2)=true∧ak (bM s.boxes p.2) fun css=>k (.dat (.fn fn as (jd p.1 css)) none) (gB p.2 css s)
theorem OH (fn:Fn) (as:List AV) (k:SV→S→Prop) (ps:List (Option AV)) (ids:List Nat):Rf fn as ⟨sl,bx,lv,nx⟩ k (ps,ids)=((eM ids && jI ids)=true∧ak (bM bx ids) fun css=>k (.dat (.fn fn as (jd ps css)) none) (gB ids css ⟨sl,bx,lv,nx⟩)):=rfl
theorem Rh (id:Nat) (fn:Fn) (a b:List bV):bS C id (.vM fn a b) K ⟨sl,bx,lv,nx⟩=ak (dL ⟨sl,bx,lv,nx⟩ a) fun as=>ak (eW ⟨sl,bx,lv,nx⟩ b) (Rf fn as ⟨sl,bx,lv,nx⟩ K):=rfl
def Ri (mx:Bool) (k:AV→Prop):List AV→Prop
 | []=>False
 | a :: r=>ak (r.foldlM (Nl mx) a) k
theorem Ue (id:Nat) (mx:Bool) (args:List bV):bS C id (.mm mx args) K ⟨sl,bx,lv,nx⟩=ak (dL ⟨sl,bx,lv,nx⟩ args) (Ri mx fun v=>K (.dat v none) ⟨sl,bx,lv,nx⟩):=by
 show ak _ _=ak _ _
 cases dL ⟨sl,bx,lv,nx⟩ args with
 | none=>rfl
 | some l=>cases l<;>rfl
theorem Rj (mx:Bool) (k:AV→Prop) (a b:AV):Ri mx k [a,b]=ak (Nl mx a b) k:=by simp [Ri]
theorem Rk (kd:IntKind) (x y:Int):Nl true (.int kd x) (.int kd y)=some (.int kd (if y > x then y else x)):=rfl
theorem OI (kd:IntKind) (x y:Int):Nl false (.int kd x) (.int kd y)=some (.int kd (if y < x then y else x)):=rfl
theorem LS (id:Nat) (zs:List AV) (parts:List (Nat × Nat × bV)):bS C id (.build zs parts) K ⟨sl,bx,lv,nx⟩=ak (ig ⟨sl,bx,lv,nx⟩ parts) fun ps=>K (.dat (.agg (bE zs ps)) none) ⟨sl,bx,lv,nx⟩:=rfl
def sZ (off sz:Nat):Option AV→Option (List (Nat × List AV))→Option (List (Nat × List AV))
 | some a,some ps=>if a.cells.length=sz∧jc a none=true then some ((off,a.cells) :: ps) else none
 | _,_=>none
theorem Jt (off sz:Nat) (x:bV) (r:List (Nat × Nat × bV)):ig ⟨sl,bx,lv,nx⟩ ((off,sz,x) :: r)=sZ off sz (aG ⟨sl,bx,lv,nx⟩ x) (ig ⟨sl,bx,lv,nx⟩ r):=rfl
theorem HF:ig ⟨sl,bx,lv,nx⟩ []=some []:=rfl
theorem aR (off sz:Nat) (a:AV) (ps:List (Nat × List AV)) (h:a.cells.length=sz) (h':jc a none=true):sZ off sz (some a) (some ps)=some ((off,a.cells) :: ps):=by simp [sZ,h,h']
theorem Rm (id e z:Nat) (xs:List bV):bS C id (.oU e z xs) K ⟨sl,bx,lv,nx⟩=ak (lE ⟨sl,bx,lv,nx⟩ z xs) fun rows=>K (.dat (.sl rows) (some id)) ⟨sl,bx,(id,e) :: lv,nx⟩:=rfl
def OJ (z:Nat):Option AV→Option (List (List AV))→Option (List (List AV))
 | some a,some rows=>if a.cells.length=z∧jc a none=true then some (a.cells :: rows) else none
 | _,_=>none
theorem LU (z:Nat) (x:bV) (r:List bV):lE ⟨sl,bx,lv,nx⟩ z (x :: r)=OJ z (aG ⟨sl,bx,lv,nx⟩ x) (lE ⟨sl,bx,lv,nx⟩ z r):=rfl
theorem Ju (z:Nat):lE ⟨sl,bx,lv,nx⟩ z []=some []:=rfl
theorem bl (z:Nat) (a:AV) (rows:List (List AV)) (h:a.cells.length=z) (h':jc a none=true):OJ z (some a) (some rows)=some (a.cells :: rows):=by simp [OJ,h,h']
theorem Rp (id e z bytes:Nat) (x y:bV):bS C id (.app e z bytes x y) K ⟨sl,bx,lv,nx⟩=ak (cM ⟨sl,bx,lv,nx⟩ x) fun
   | .dat a q=>ak (rowsOf a) fun xs=>ak (aG ⟨sl,bx,lv,nx⟩ y) fun b=>ak (rowsOf b) fun ys =>
     (xs.length + ys.length) * bytes≤140737488355328∧(∀ r∈xs,r.length=z)∧(∀ r∈ys,r.length=z) ∧
     (match a,q with
      | .bw,_=>if ys=[] then K (.dat .bw none) ⟨sl,bx,lv,nx⟩ else K (.dat (.sl (xs++ys)) (some id)) ⟨sl,bx,(id,e) :: lv,nx⟩
      | .sl _,some q=>eA q lv=some e∧K (.dat (.sl (xs++ys)) (some id)) ⟨sl,bx,(id,e) :: qm q lv,nx⟩
      | _,_=>False)
   | _=>False:=rfl
theorem Rq (id z:Nat) (x:bV) (lo hi:Option bV):bS C id (.NJ z x lo hi) K ⟨sl,bx,lv,nx⟩=ak (aG ⟨sl,bx,lv,nx⟩ x) fun a=>ak (rowsOf a) fun xs=>ak (yh ⟨sl,bx,lv,nx⟩ lo) fun l=>ak (yj ⟨sl,bx,lv,nx⟩ xs hi) fun h=>(0≤l∧l≤h∧h≤xs.length)∧(∀ r∈xs,r.length=z)∧K (.dat (II a xs l h) none) ⟨sl,bx,lv,nx⟩:=rfl
theorem LV:yh ⟨sl,bx,lv,nx⟩ none=some 0:=rfl
theorem OK (x:bV):yh ⟨sl,bx,lv,nx⟩ (some x)=vN (aG ⟨sl,bx,lv,nx⟩ x):=by cases h:aG ⟨sl,bx,lv,nx⟩ x<;>simp [yh,vN,h]
theorem LW (xs:List (List AV)):yj ⟨sl,bx,lv,nx⟩ xs none=some (xs.length:Int):=rfl
theorem OL (xs:List (List AV)) (x:bV):yj ⟨sl,bx,lv,nx⟩ xs (some x)=vN (aG ⟨sl,bx,lv,nx⟩ x):=by cases h:aG ⟨sl,bx,lv,nx⟩ x<;>simp [yj,vN,h]
theorem OM (k:IntKind) (i:Int):vN (some (.int k i))=some i:=rfl
theorem Rr (xs ys:List (List AV)) (l h:Int):II (.sl ys) xs l h=.sl ((xs.take h.toNat).drop l.toNat):=rfl
theorem ON (xs:List (List AV)) (l h:Int):II .bw xs l h=.bw:=rfl
def Qo (k:SV→Prop):SV→Prop
 | .ptr b o=>k (.ptr b o)
 | .rp cs=>k (.rp cs)
 | .dat (.fn (.func f) as bs) q=>k (.dat (.fn (.func f) as bs) q)
 | .dat (.ref cs) _=>k (.rp cs)
 | _=>False
theorem Uf (id:Nat) (x:bV):bS C id (.nc x) K ⟨sl,bx,lv,nx⟩=ak (cM ⟨sl,bx,lv,nx⟩ x) (Qo fun v=>K v ⟨sl,bx,lv,nx⟩):=by
 show ak _ _=ak _ _
 cases cM ⟨sl,bx,lv,nx⟩ x with
 | none=>rfl
 | some v=>cases v with
  | dat a q=>cases a<;>first | rfl | (rename_i f _ _; cases f<;>rfl)
  | _=>rfl
theorem Rs (k:SV→Prop) (b o:Nat):Qo k (.ptr b o)=k (.ptr b o):=rfl
theorem Rt (k:SV→Prop) (cs:List AV) (q:Option Nat):Qo k (.dat (.ref cs) q)=k (.rp cs):=rfl
theorem Ru (k:SV→Prop) (cs:List AV):Qo k (.rp cs)=k (.rp cs):=rfl
theorem OO:aw C .skip Q ⟨sl,bx,lv,nx⟩=Q .normal ⟨sl,bx,lv,nx⟩:=rfl
def Jv (k:S→Prop) (n:Nat):S→Prop:=fun s=>k { s with nx:=n }
theorem Rv (ops:List CO):aw C (.KY ops) Q ⟨sl,bx,lv,nx⟩=je C nx 0 ops (Jv (Q .normal) (nx + ops.length)) ⟨sl,bx,lv,nx⟩:=rfl
def OP (ops:List CO) (dA:List (Nat × Nat)) (s:S) (F:List CO→S→Prop):Prop:=∃ ids,(eM ids && jI ids)=true∧ak (bM s.boxes ids) fun css=>∃ ro,AT (mX ro 0 ops) dA (gB ids css s).nx (gB ids css s).slots=true∧F (mX ro 0 ops) (gB ids css s)
class KF where
 k:List CO→S→Prop
def dg (ops:List CO) (dA:List (Nat × Nat)) (s:S) [k:KF]:Prop:=OP ops dA s k.k
theorem Ug (ops:List CO) (dA:List (Nat × Nat)) (s:S) (F:List CO→S→Prop):OP ops dA s F=@dg ops dA s ⟨F⟩:=rfl
theorem p8 {ops:List CO} {dA:List (Nat × Nat)} {s:S} {F:List CO→S→Prop} (h:AT ops dA s.nx s.slots=true) (hk:F ops s):@dg ops dA s ⟨F⟩:=⟨[],rfl,[],by rw [uv]; exact h,by rw [uv]; exact hk⟩
theorem i7 {ops:List CO} {dA:List (Nat × Nat)} {s:S} {F:List CO→S→Prop} (ro:List Nat) (h:AT (mX ro 0 ops) dA s.nx s.slots=true) (hk:F (mX ro 0 ops) s):@dg ops dA s ⟨F⟩:=⟨[],rfl,ro,h,hk⟩
theorem Fi {ops:List CO} {dA:List (Nat × Nat)} {s:S} {F:List CO→S→Prop} (ids ro:List Nat) {css:List (List AV)} (hn:(eM ids && jI ids)=true) (hc:bM s.boxes ids=some css) (h:AT (mX ro 0 ops) dA (gB ids css s).nx (gB ids css s).slots=true) (hk:F (mX ro 0 ops) (gB ids css s)):@dg ops dA s ⟨F⟩:=⟨ids,hn,by rw [hc]; exact ⟨ro,h,hk⟩⟩
def Uh (C:bk) (nx:Nat) (K:S→Prop) (ops:List CO) (s:S):Prop:=je C nx 0 ops K s
theorem Rw (nx:Nat) (K:S→Prop) (o:CO) (ops:List CO):Uh C nx K (o :: ops) ⟨sl,bx,lv,nx⟩=je C nx 0 (o :: ops) K ⟨sl,bx,lv,nx⟩:=rfl
theorem OQ (ops:List CO) (dA:List (Nat × Nat)):aw C (.nB ops dA) Q ⟨sl,bx,lv,nx⟩=OP ops dA ⟨sl,bx,lv,nx⟩ (Uh C nx (Jv (Q .normal) (nx + ops.length))):=by
 show (∃ ids,_∧ak _ _)=(∃ ids,_∧ak _ _)
 congr 1; funext ids; congr 2; funext css
 show NN _ _ _ _ _=_
 unfold NN Uh
 simp only [BJ]
 rfl
theorem OR (k:S→Prop) (n:Nat):Jv k n ⟨sl,bx,lv,nx⟩=k ⟨sl,bx,lv,n⟩:=rfl
theorem Rx (a b:bp):aw C (.seq a b) Q ⟨sl,bx,lv,nx⟩=aw C a (j8 (aw C b Q) Q) ⟨sl,bx,lv,nx⟩:=rfl
theorem Jw (a b:bp):aw C (.join a b) Q ⟨sl,bx,lv,nx⟩=aw C a (j8 (down (aw C b Q)) Q) ⟨sl,bx,lv,nx⟩:=rfl
def ta (a b:Prop):AV→Prop
 | .bool t=>(t=true→a)∧(t=false→b)
 | _=>False
theorem OS (c:bV) (a b:bp):aw C (.cond c a b) Q ⟨sl,bx,lv,nx⟩=ak (aG ⟨sl,bx,lv,nx⟩ c) (ta (aw C a Q ⟨sl,bx,lv,nx⟩) (aw C b Q ⟨sl,bx,lv,nx⟩)):=rfl
def Ry (n z:Nat) (a:Option AV) (k:SV→Prop):SV→Prop
 | .ptr b off=>ak a fun a=>ak (idxOf a) fun h=>(0≤h∧h≤n)∧k (.vs b off h.toNat z)
 | _=>False
theorem Rz (id:Nat) (x:bV) (n z:Nat) (hi:bV):bS C id (.Qg x n z hi) K ⟨sl,bx,lv,nx⟩=ak (cM ⟨sl,bx,lv,nx⟩ x) (Ry n z (aG ⟨sl,bx,lv,nx⟩ hi) fun v=>K v ⟨sl,bx,lv,nx⟩):=by
 show ak _ _=ak _ _
 cases cM ⟨sl,bx,lv,nx⟩ x with
 | none=>rfl
 | some v=>cases v<;>rfl
theorem OT (n z:Nat) (a:Option AV) (k:SV→Prop) (b off:Nat):Ry n z a k (.ptr b off)=ak a fun a=>ak (idxOf a) fun h=>(0≤h∧h≤n)∧k (.vs b off h.toNat z):=rfl
def Gp (a b:Prop):AV→Prop
 | .bool t=>(t=true→a)∧(t=false→b)
 | _=>False
def Jy (id e z bytes:Nat) (s:S) (K:SV→S→Prop) (b off n z':Nat):SV→Prop
 | .ptr b' _=>(b'=b∧z'=z)∧ak (cL b s.boxes) fun y=>(n * z≤(y.cells.drop off).length∧n * bytes≤140737488355328) ∧
   Gp (K (.dat .bw none) s) (K (.dat (.sl (cJ z n (y.cells.drop off))) (some id)) { s with live:=(id,e) :: s.live }) (.bool (n == 0))
 | _=>False
def Nt (id e z bytes:Nat) (s:S) (K:SV→S→Prop) (x:Option SV):SV→Prop
 | .vs b off n z'=>ak x (Jy id e z bytes s K b off n z')
 | _=>False
theorem Jz (a b:Prop) (n:Nat):Gp a b (.bool (n == 0))=(if n=0 then a else b):=by
 by_cases h:n=0
 ·subst h; simp [Gp]
 ·simp [Gp,h]
theorem OU (id e z bytes:Nat) (y x:bV):bS C id (.AB e z bytes y x) K ⟨sl,bx,lv,nx⟩=ak (cM ⟨sl,bx,lv,nx⟩ y) (Nt id e z bytes ⟨sl,bx,lv,nx⟩ K (cM ⟨sl,bx,lv,nx⟩ x)):=by
 show ak _ _=ak _ _
 cases cM ⟨sl,bx,lv,nx⟩ y with
 | none=>rfl
 | some v =>
  cases v<;>try rfl
  show ak _ _=ak _ _
  cases cM ⟨sl,bx,lv,nx⟩ x with
  | none=>rfl
  | some u =>
   cases u<;>try rfl
   show (_∧ak _ _)=(_∧ak _ _)
   congr 2
   funext y
   rw [Jz]
theorem LY (id e z bytes:Nat) (K:SV→S→Prop) (x:Option SV) (b off n z':Nat):Nt id e z bytes ⟨sl,bx,lv,nx⟩ K x (.vs b off n z')=ak x (Jy id e z bytes ⟨sl,bx,lv,nx⟩ K b off n z'):=rfl
theorem LZ (id e z bytes:Nat) (K:SV→S→Prop) (b off n z' b' o:Nat):Jy id e z bytes ⟨sl,bx,lv,nx⟩ K b off n z' (.ptr b' o)=((b'=b∧z'=z)∧ak (cL b bx) fun y=>(n * z≤(y.cells.drop off).length∧n * bytes≤140737488355328) ∧
   ta (K (.dat .bw none) ⟨sl,bx,lv,nx⟩) (K (.dat (.sl (cJ z n (y.cells.drop off))) (some id)) ⟨sl,bx,(id,e) :: lv,nx⟩) (.bool (n == 0))):=rfl
def cd (c:AV) [k:KP]:Prop:=ta k.yes k.no c
theorem dz (a b:Prop) (c:AV):ta a b c=@cd c ⟨a,b⟩:=rfl
theorem L0 (a b:Prop):@cd (.bool true) ⟨a,b⟩=a:=by simp [cd,ta]
theorem L1 (a b:Prop):@cd (.bool false) ⟨a,b⟩=b:=by simp [cd,ta]
theorem L2 (id:Nat) (c:bp):aw C (.block id c) Q ⟨sl,bx,lv,nx⟩=aw C c (gh id Q) ⟨sl,bx,lv,nx⟩:=rfl
theorem OV (id:Nat):aw C (.exit id) Q ⟨sl,bx,lv,nx⟩=Q (.exit id) ⟨sl,bx,lv,nx⟩:=rfl
theorem RA:aw C .ret Q ⟨sl,bx,lv,nx⟩=Q .ret ⟨sl,bx,lv,nx⟩:=rfl
theorem L3 (l:Nat) (c r:bp):aw C (.scope l c r) Q ⟨sl,bx,lv,nx⟩=aw C c (nC l (aw C r (yo Q)) Q) ⟨sl,bx,lv,nx⟩:=rfl
theorem L4 (l:Nat):aw C (.label l) Q ⟨sl,bx,lv,nx⟩=Q .normal ⟨sl,bx,lv,nx⟩:=rfl
theorem OW (l:Nat):aw C (.goto l) Q ⟨sl,bx,lv,nx⟩=Q (.goto l) ⟨sl,bx,lv,nx⟩:=rfl
theorem L5 (k:S→Prop) (s:S) (l:Nat):j8 k Q (.goto l) s=Q (.goto l) s:=rfl
theorem OX (id:Nat) (s:S) (l:Nat):gh id Q (.goto l) s=Q (.goto l) s:=rfl
theorem RB (l:Nat) (k:S→Prop) (s:S):nC l k Q .normal s=Q .normal s:=rfl
theorem RC (l:Nat) (k:S→Prop) (s:S):nC l k Q .ret s=Q .ret s:=rfl
theorem RD (l:Nat) (k:S→Prop) (s:S) (id:Nat):nC l k Q (.exit id) s=Q (.exit id) s:=rfl
theorem RE (l:Nat) (k:S→Prop) (s:S) (l':Nat):nC l k Q (.goto l') s=(l'=l∧k s):=rfl
theorem RF (s:S):yo Q .normal s=Q .normal s:=rfl
theorem RG (s:S):yo Q .ret s=Q .ret s:=rfl
theorem RH (s:S) (id:Nat):yo Q (.exit id) s=Q (.exit id) s:=rfl
theorem L6 (k:S→Prop) (s:S):j8 k Q .normal s=k s:=rfl
theorem L7 (k:S→Prop) (s:S):j8 k Q .ret s=Q .ret s:=rfl
theorem L8 (k:S→Prop) (s:S) (id:Nat):j8 k Q (.exit id) s=Q (.exit id) s:=rfl
theorem OY (id:Nat) (s:S):gh id Q .normal s=Q .normal s:=rfl
theorem OZ (id:Nat) (s:S):gh id Q .ret s=Q .ret s:=rfl
theorem O0 (id:Nat) (s:S):gh id Q (.exit id) s=Q .normal s:=by simp [gh]
theorem bn (id id':Nat) (s:S) (h:(id' == id)=false):gh id Q (.exit id') s=Q (.exit id') s:=by
 have:id'≠id:=by simpa using h
 simp [gh,this]
end
section
variable {C:bk} {Q:Exit→S→Prop} {K:SV→S→Prop} {J:S→Prop}
@[congr] theorem TI {α:Type} {o o':Option α} (k:α→Prop) (h:o=o'):ak o k=ak o' k:=by rw [h]
@[congr] theorem UQ (id:Nat) (o:bU) (s:S):bS C id o K s=bS C id o K s:=rfl
@[congr] theorem Ui (b i:Nat) (l:List CO) (s:S):je C b i l J s=je C b i l J s:=rfl
@[congr] theorem Vf (c:bp) (s:S):aw C c Q s=aw C c Q s:=rfl
@[congr] theorem TJ (e:Exit) (s:S):j8 J Q e s=j8 J Q e s:=rfl
@[congr] theorem RI {J:S→Prop} (l:Nat) (e:Exit) (s:S):nC l J Q e s=nC l J Q e s:=rfl
@[congr] theorem Uj (e:Exit) (s:S):yo Q e s=yo Q e s:=rfl
@[congr] theorem RJ (id:Nat) (e:Exit) (s:S):gh id Q e s=gh id Q e s:=rfl
@[congr] theorem Uk (n:Nat) (s:S):Jv J n s=Jv J n s:=rfl
@[congr] theorem Ul {s s':S} (h:s=s'):down J s=down J s':=by rw [h]
@[congr] theorem RM (w:Bool) (yes no:Prop) {g g':Option SV} (h:g=g'):nF w yes no g=nF w yes no g':=by rw [h]
@[congr] theorem TK {a a' b b':Option SV} (k:SV→Prop) {c c':AV} (ha:a=a') (hb:b=b') (hc:c=c'):yV a b k c=yV a' b' k c':=by rw [ha,hb,hc]
@[congr] theorem TL (a b:Prop) {c c':AV} (h:c=c'):ta a b c=ta a b c':=by rw [h]
@[congr] theorem UR (sz:Option Nat) (bx:List (Nat × dO)) (k:SV→Prop) {v v':SV} (h:v=v'):Ql sz bx k v=Ql sz bx k v':=by rw [h]
@[congr] theorem US (off:Nat) (k:SV→Prop) {v v':SV} (h:v=v'):QS off k v=QS off k v':=by rw [h]
@[congr] theorem UT {d d':Nat} (k:SV→Prop) {v v':SV} (h:v=v') (hd:d=d'):QV d k v=QV d' k v':=by rw [h,hd]
@[congr] theorem UU (sz:Nat) (bx:List (Nat × dO)) {u u':Option SV} (k:List (Nat × dO)→Prop) {v v':SV} (hu:u=u') (h:v=v'):TH sz bx u k v=TH sz bx u' k v':=by rw [h,hu]
@[congr] theorem UW (sz off:Nat) (x:dO) (k:dO→Prop) {v v':SV} (h:v=v'):QM sz off x k v=QM sz off x k v':=by rw [h]
@[congr] theorem Um (k:List AV→Prop) {v v':AV} (h:v=v'):Fh k v=Fh k v':=by rw [h]
@[congr] theorem UX (m:Bool) (k:AV→Prop) {v v':List AV} (h:v=v'):Ri m k v=Ri m k v':=by rw [h]
@[congr] theorem UY (k:SV→Prop) {v v':SV} (h:v=v'):Qo k v=Qo k v':=by rw [h]
end
section
variable (k:IntKind) (x y:Int)
theorem RO:dF .add (.int k x) (.int k y)=some (.int k (k.wrap (x + y))):=by simp [dF,qj]
theorem RQ:dF .sub (.int k x) (.int k y)=some (.int k (k.wrap (x - y))):=by simp [dF,qj]
theorem RR:dF .mul (.int k x) (.int k y)=some (.int k (k.wrap (x * y))):=by simp [dF,qj]
theorem RS:dF .eql (.int k x) (.int k y)=some (.bool (x == y)):=by simp [dF,qj]
theorem RU:dF .neq (.int k x) (.int k y)=some (.bool (x != y)):=by simp [dF,qj]
theorem RZ:dF .lss (.int k x) (.int k y)=some (.bool (decide (x < y))):=by simp [dF,qj]
theorem R3:dF .leq (.int k x) (.int k y)=some (.bool (decide (x≤y))):=by simp [dF,qj]
theorem R5:dF .gtr (.int k x) (.int k y)=some (.bool (decide (y < x))):=by simp [dF,qj]
theorem R6:dF .geq (.int k x) (.int k y)=some (.bool (decide (y≤x))):=by simp [dF,qj]
def dB (k:IntKind) (x y:Int):Int:=k.wrap (BitVec.ofInt k.bits x &&& BitVec.ofInt k.bits y).toNat
def xm (k:IntKind) (x y:Int):Int:=k.wrap (BitVec.ofInt k.bits x ||| BitVec.ofInt k.bits y).toNat
def HG (k:IntKind) (x y:Int):Int:=k.wrap (BitVec.ofInt k.bits x ^^^ BitVec.ofInt k.bits y).toNat
def bf (k:IntKind) (x y:Int):Int:=k.wrap (BitVec.ofInt k.bits x &&& ~~~BitVec.ofInt k.bits y).toNat
theorem R7:dF .and (.int k x) (.int k y)=some (.int k (dB k x y)):=by simp [dF,qj,wR,dB]
theorem Un:dF .or (.int k x) (.int k y)=some (.int k (xm k x y)):=by simp [dF,qj,wR,xm]
theorem R8:dF .xor (.int k x) (.int k y)=some (.int k (HG k x y)):=by simp [dF,qj,wR,HG]
theorem JA:dF .andNot (.int k x) (.int k y)=some (.int k (bf k x y)):=by simp [dF,qj,wR,bf]
def p9 (c:Prop) [Decidable c] (v:AV):Option AV:=if c then some v else none
theorem L9 (c:Prop) [Decidable c] (v:AV) (K:AV→Prop):@wv _ (p9 c v) ⟨K⟩=(c∧K v):=by
 rw [← c8]; unfold p9; split<;>simp_all
theorem R9:dF .quo (.int k x) (.int k y)=p9 (y≠0) (.int k (k.wrap (x.tdiv y))):=by
 by_cases h:y=0<;>simp [dF,qj,p9,h]
theorem Sa:dF .rem (.int k x) (.int k y)=p9 (y≠0) (.int k (x.tmod y)):=by
 by_cases h:y=0<;>simp [dF,qj,p9,h]
theorem Sb (k':IntKind):dF .shl (.int k x) (.int k' y)=p9 (0≤y) (.int k (k.wrap (x * 2 ^ min y.toNat k.bits))):=by
 by_cases h:0≤y
 ·have:¬ y < 0:=by omega
  simp [dF,qy,p9,h,this]
 ·have:y < 0:=by omega
  simp [dF,qy,p9,this]
theorem Sd (k':IntKind):dF .shr (.int k x) (.int k' y)=p9 (0≤y) (.int k (x.fdiv (2 ^ min y.toNat k.bits))):=by
 by_cases h:0≤y
 ·have:¬ y < 0:=by omega
  simp [dF,qy,p9,h,this]
 ·have:y < 0:=by omega
  simp [dF,qy,p9,this]
theorem Se (x y:Bool):Qh false (.bool x) (.bool y)=some (.bool (x == y)):=rfl
theorem Sf (x y:Bool):Qh true (.bool x) (.bool y)=some (.bool (x != y)):=rfl
theorem Sg (b:Bool):NL .not (.bool b)=some (.bool !b):=rfl
theorem Si:NL .neg (.int k x)=some (.int k (k.wrap (0 - x))):=rfl
theorem Sj:C0 false .bw=some true:=rfl
theorem Sk:C0 true .bw=some false:=rfl
theorem Sl (xs:List (List AV)):C0 false (.sl xs)=some false:=rfl
theorem Sm (xs:List (List AV)):C0 true (.sl xs)=some true:=rfl
theorem Sn:xG .bw=some (.int .i64 0):=rfl
theorem Uo (xs:List (List AV)):xG (.sl xs)=some (.int .i64 xs.length):=rfl
theorem Up (k':IntKind):AR k (.int k' x)=some (.int k (k.wrap x)):=rfl
theorem Ur (k':IntKind) (f:FloatKind):yg f (.int k' x)=some (.float f (f.nearest x)):=rfl
theorem So (vs:List AV) (i:Nat):IG (.cI vs) i=vs[i]?:=rfl
theorem Sq (cs:List AV):jc (.agg cs) none=true:=rfl
theorem Sr (q:Option Nat):jc (.int k x) q=true:=rfl
theorem Ss (b:Bool) (q:Option Nat):jc (.bool b) q=true:=rfl
theorem St (f:FloatKind) (n:Nat) (q:Option Nat):jc (.float f n) q=true:=rfl
theorem Su (q:Option Nat):jc .bw q=true:=rfl
theorem Sv (xs:List (List AV)) (q:Option Nat):jc (.sl xs) q=true:=rfl
theorem Sw (b:ByteArray) (q:Option Nat):jc (.str b) q=true:=rfl
theorem Sx (f:Fn) (as bs:List AV) (q:Option Nat):jc (.fn f as bs) q=true:=rfl
theorem O1 (cs:List AV) (q:Option Nat):jc (.ref cs) q=true:=rfl
theorem Sy (q:Option Nat):jc .dW q=true:=rfl
theorem HH (cs:List AV):AV.cells (.agg cs)=cs:=rfl
theorem HI:AV.cells (.int k x)=[.int k x]:=rfl
theorem Fj (b:Bool):AV.cells (.bool b)=[.bool b]:=rfl
theorem Dn (f:FloatKind) (n:Nat):AV.cells (.float f n)=[.float f n]:=rfl
theorem Fk:AV.cells .bw=[.bw]:=rfl
theorem HJ (cs:List AV):AV.cells (.ref cs)=[.ref cs]:=rfl
theorem JB (f:Fn) (as bs:List AV):AV.cells (.fn f as bs)=[.fn f as bs]:=rfl
theorem JC (xs:List (List AV)):AV.cells (.sl xs)=[.sl xs]:=rfl
theorem vZ (cs:List AV) (off:Nat):aD cs off none=cs[off]?:=rfl
theorem bh (cs:List AV) (off n:Nat) (h:off + n≤cs.length):aD cs off (some n)=some (.agg ((cs.drop off).take n)):=by simp [aD,h]
end
theorem aV {w:Bool} {yes no:Prop} {t:Bool} {q:Option Nat} (h1:t=true→@gd w (some (.dat (.bool true) q)) ⟨yes,no⟩) (h2:t=false→@gd w (some (.dat (.bool false) q)) ⟨yes,no⟩):@gd w (some (.dat (.bool t) q)) ⟨yes,no⟩:=by
 cases t
 ·exact h2 rfl
 ·exact h1 rfl
theorem ax {a b:Prop} {t:Bool} (h1:t=true→a) (h2:t=false→b):@cd (.bool t) ⟨a,b⟩:=by
 cases t
 ·simpa [cd,ta] using h2 rfl
 ·simpa [cd,ta] using h1 rfl
theorem bq {a b:Option SV} {k:SV→Prop} {t:Bool} (h1:t=true→@pk a b (.bool true) ⟨k⟩) (h2:t=false→@pk a b (.bool false) ⟨k⟩):@pk a b (.bool t) ⟨k⟩:=by
 cases t
 ·exact h2 rfl
 ·exact h1 rfl
theorem Ma (p:Nat) (ps:List Nat) (x:AV) (xs:List AV) (s:S):ov (p :: ps) (x :: xs) s=ov ps xs (s.put (some p) (.dat x none)):=rfl
theorem JD (s:S):ov [] [] s=s:=rfl
theorem O2 (wr:List Nat) (sl:List (Nat × SV)) (bx:List (Nat × dO)) (lv:List (Nat × Nat)) (nx:Nat):ym wr ⟨sl,bx,lv,nx⟩=⟨AF wr sl,bx,lv,nx⟩:=rfl
theorem Mb (wr:List Nat):AF wr []=[]:=rfl
theorem O3 (wr:List Nat) (t:Nat) (v:SV) (r:List (Nat × SV)):AF wr ((t,v) :: r)=bif wr.contains t then AF wr r else (t,v) :: AF wr r:=rfl
theorem O4 (wr:List Nat) (F:S→Prop) (Q:Exit→S→Prop) (s:S):ER wr F Q .normal s=down F (ym wr s):=rfl
theorem O5 (wr:List Nat) (F:S→Prop) (Q:Exit→S→Prop) (s:S):ER wr F Q .ret s=Q .ret (ym wr s):=rfl
theorem O6 (wr:List Nat) (F:S→Prop) (Q:Exit→S→Prop) (id:Nat) (s:S):ER wr F Q (.exit id) s=Q (.exit id) (ym wr s):=rfl
theorem Mc (K:S→Prop) (s:S):uw K .normal s=K s:=rfl
def Vg :=
 And.intro @N4 (And.intro @N5 (And.intro @N6 (And.intro @QG (And.intro @TX (And.intro @QH (And.intro @QI (And.intro @Dl (And.intro @xl (And.intro @uL (And.intro @qK (And.intro @N7 (And.intro @N8 (And.intro @Lt (And.intro @QJ (And.intro @N9 (And.intro @Oa (And.intro @Ob (And.intro @Lu (And.intro @Oc (And.intro @Lv (And.intro @Lw (And.intro @Lx (And.intro @Ly (And.intro @Ja (And.intro @Lz (And.intro @Od (And.intro @LA (And.intro @Jb (@Jc)))))))))))))))))))))))))))))
def Vh :=
 And.intro @Hz (And.intro @Jd (And.intro @HA (And.intro @TY (And.intro @Oe (And.intro @LB (And.intro @LC (And.intro @LD (And.intro @QK (And.intro @TZ (And.intro @Of (And.intro @Og (And.intro @QL (And.intro @T6 (And.intro @QN (And.intro @QO (And.intro @LF (And.intro @LG (And.intro @T7 (And.intro @QT (And.intro @QU (And.intro @QW (And.intro @QX (And.intro @QY (And.intro @QZ (And.intro @Q0 (And.intro @Oh (And.intro @LH (And.intro @Q1 (@Q2)))))))))))))))))))))))))))))
def Vi :=
 And.intro @Q3 (And.intro @Q4 (And.intro @Q5 (And.intro @T8 (And.intro @T9 (And.intro @Oi (And.intro @Oj (And.intro @Ol (And.intro @Om (And.intro @Ua (And.intro @Ub (And.intro @Uc (And.intro @Ud (And.intro @Q6 (And.intro @Oq (And.intro @Ot (And.intro @Q8 (And.intro @Ou (And.intro @Ov (And.intro @Ow (And.intro @Je (And.intro @Jf (And.intro @Jg (And.intro @Ox (And.intro @Ra (And.intro @Jh (And.intro @LI (And.intro @LJ (And.intro @Ji (@LK)))))))))))))))))))))))))))))
def Vj :=
 And.intro @LL (And.intro @HB (And.intro @Jj (And.intro @HC (And.intro @Jk (And.intro @Jl (And.intro @LM (And.intro @LN (And.intro @Jm (And.intro @Jn (And.intro @LO (And.intro @Jo (And.intro @Jp (And.intro @HD (And.intro @HE (And.intro @Rb (And.intro @Rc (And.intro @Oy (And.intro @Oz (And.intro @OA (And.intro @OB (And.intro @LP (And.intro @OC (And.intro @LQ (And.intro @OD (And.intro @LR (And.intro @OE (And.intro @Jq (And.intro @Jr (@Js)))))))))))))))))))))))))))))
def Vk :=
 And.intro @OG (And.intro @Re (And.intro @OH (And.intro @Rh (And.intro @Ue (And.intro @Rj (And.intro @Rk (And.intro @OI (And.intro @LS (And.intro @Jt (And.intro @HF (And.intro @Rm (And.intro @LU (And.intro @Ju (And.intro @Rp (And.intro @Rq (And.intro @LV (And.intro @OK (And.intro @LW (And.intro @OL (And.intro @OM (And.intro @Rr (And.intro @ON (And.intro @Uf (And.intro @Rs (And.intro @Rt (And.intro @Ru (And.intro @OO (And.intro @Rv (@Rw)))))))))))))))))))))))))))))
def Vl :=
 And.intro @OQ (And.intro @OR (And.intro @Rx (And.intro @Jw (And.intro @OS (And.intro @Rz (And.intro @OT (And.intro @OU (And.intro @LY (And.intro @LZ (And.intro @L0 (And.intro @L1 (And.intro @L2 (And.intro @OV (And.intro @RA (And.intro @L3 (And.intro @L4 (And.intro @OW (And.intro @L5 (And.intro @OX (And.intro @RB (And.intro @RC (And.intro @RD (And.intro @RE (And.intro @RF (And.intro @RG (And.intro @RH (And.intro @L6 (And.intro @L7 (@L8)))))))))))))))))))))))))))))
def Vm :=
 And.intro @OY (And.intro @OZ (And.intro @O0 (And.intro @RO (And.intro @RQ (And.intro @RR (And.intro @RS (And.intro @RU (And.intro @RZ (And.intro @R3 (And.intro @R5 (And.intro @R6 (And.intro @R7 (And.intro @Un (And.intro @R8 (And.intro @JA (And.intro @L9 (And.intro @R9 (And.intro @Sa (And.intro @Sb (And.intro @Sd (And.intro @Se (And.intro @Sf (And.intro @Sg (And.intro @Si (And.intro @Sj (And.intro @Sk (And.intro @Sl (And.intro @Sm (@Sn)))))))))))))))))))))))))))))
def Vn :=
 And.intro @Uo (And.intro @Up (And.intro @Ur (And.intro @So (And.intro @Sq (And.intro @Sr (And.intro @Ss (And.intro @St (And.intro @Su (And.intro @Sv (And.intro @Sw (And.intro @Sx (And.intro @O1 (And.intro @Sy (And.intro @HH (And.intro @HI (And.intro @Fj (And.intro @Dn (And.intro @Fk (And.intro @HJ (And.intro @JB (And.intro @JC (And.intro @vZ (And.intro @Ma (And.intro @JD (And.intro @O2 (And.intro @Mb (And.intro @O3 (And.intro @O4 (@O5)))))))))))))))))))))))))))))
def Vo :=
 And.intro @O6 (@Mc)
def EV :=
 And.intro @Vg (And.intro @Vh (And.intro @Vi (And.intro @Vj (And.intro @Vk (And.intro @Vl (And.intro @Vm (And.intro @Vn (@Vo))))))))
end Go.Eng
namespace Go.Eng
open Go
section
variable {C:bk}
theorem v7 {base:Nat}:∀ {l:List CO} {i:Nat} {s:S} {K K':S→Prop},(∀ s,K s→K' s)→je C base i l K s→je C base i l K' s
 | [],i,s,K,K',hk,h=>hk s h
 | o :: l,i,s,K,K',hk,h=>by
  rw [lQ] at h ⊢
  obtain ⟨v,d,hd,hk',_⟩:=d6 h
  exact hd.2 s .refl _ (v7 hk hk')
theorem jK {F G:S→Prop} (h:∀ s,F s→G s) {s:S} (hd:down F s):down G s:=by
 obtain ⟨s1,⟨hl,hF⟩|hF⟩:=hd
 ·exact ⟨s1,.inl ⟨hl,h _ hF⟩⟩
 ·exact ⟨s1,.inr (h _ hF)⟩
theorem iT {F G:S→Prop} {Q Q':Exit→S→Prop} (h:∀ s,F s→G s) (hq:∀ e s,Q e s→Q' e s) {e:Exit} {s:S} (ha:j8 F Q e s):j8 G Q' e s:=by
 cases e<;>first | exact h _ ha | exact hq _ _ ha
theorem Dp {id:Nat} {Q Q':Exit→S→Prop} (hq:∀ e s,Q e s→Q' e s) {e:Exit} {s:S} (ha:gh id Q e s):gh id Q' e s:=by
 cases e with
 | exit i =>
  simp only [gh] at ha ⊢
  split
  ·rename_i hi; rw [if_pos hi] at ha; exact hq _ _ ha
  ·rename_i hi; rw [if_neg hi] at ha; exact hq _ _ ha
 | _=>exact hq _ _ ha
theorem o3 {F G:(Exit→S→Prop)→S→Prop} (hF:∀ Q Q' s,(∀ e s,Q e s→Q' e s)→F Q s→G Q' s) {Q Q':Exit→S→Prop} (hq:∀ e s,Q e s→Q' e s):∀ {n:Nat} {s:S},m5 F Q n s→m5 G Q' n s
 | 0,s,h=>h
 | n + 1,s,h=>hF _ _ s (fun e s ha=>iT (fun s hd=>jK (fun s h=>o3 hF hq h) hd) hq ha) h
theorem JE {wr:List Nat} {F:S→Prop} {Q Q':Exit→S→Prop} (hq:∀ e s,Q e s→Q' e s) {e:Exit} {s:S} (h:ER wr F Q e s):ER wr F Q' e s:=by
 cases e<;>first | exact h | exact hq _ _ h
theorem j4:∀ {c:bp} {Q Q':Exit→S→Prop} {s:S},(∀ e s,Q e s→Q' e s)→aw C c Q s→aw C c Q' s:=by
 intro c
 induction c with
 | skip=>intro Q Q' s hq h; exact hq _ _ h
 | KY ops=>intro Q Q' s hq h; exact v7 (fun s h=>hq _ _ h) h
 | nB ops dA =>
  intro Q Q' s hq h
  obtain ⟨ids,hids,h⟩:=h
  obtain ⟨css,hcss,ro,hd,h⟩:=ah h
  exact ⟨ids,hids,by rw [hcss]; exact ⟨ro,hd,v7 (fun s h=>hq _ _ h) h⟩⟩
 | seq a b iha ihb=>intro Q Q' s hq h; exact iha (fun e s ha=>iT (fun s h=>ihb hq h) hq ha) h
 | join a b iha ihb=>intro Q Q' s hq h; exact iha (fun e s ha=>iT (fun s h=>jK (fun s h=>ihb hq h) h) hq ha) h
 | cond c a b iha ihb =>
  intro Q Q' s hq h
  simp only [aw] at h ⊢
  obtain ⟨v,hv,h⟩:=ah h
  rw [hv]
  cases v<;>try (exact h.elim)
  exact ⟨fun e=>iha hq (h.1 e),fun e=>ihb hq (h.2 e)⟩
 | block id c ih=>intro Q Q' s hq h; exact ih (fun e s ha=>Dp hq ha) h
 | loop c ih =>
  intro Q Q' s hq h
  exact jK (fun s ⟨n,h⟩=>⟨n,o3 (F:=aw C c) (G:=aw C c) (fun Q Q' s hq h=>ih hq h) hq h⟩) h
 | exit id=>intro Q Q' s hq h; exact hq _ _ h
 | ret=>intro Q Q' s hq h; exact hq _ _ h
 | label l=>intro Q Q' s hq h; exact hq _ _ h
 | goto l=>intro Q Q' s hq h; exact hq _ _ h
 | scope l c r ihc ihr =>
  intro Q Q' s hq h
  refine ihc (fun e s ha=>?_) h
  cases e with
  | goto l' =>
   refine ⟨ha.1,ihr (fun e s hb=>?_) ha.2⟩
   cases e<;>first | exact hb | exact hq _ _ hb
  | _=>exact hq _ _ ha
 | mW g ps wr as bd iha ihb =>
  intro Q Q' s hq h
  simp only [aw] at h ⊢
  obtain ⟨gv,hgv,xs,h1,h2,F,h3,h4,h5,h6⟩:=ah h
  rw [hgv]
  refine ⟨xs,h1,h2,F,h3,h4,fun i x s' hx hs=>iha (fun e s ha=>?_) (h5 i x s' hx hs),fun s' hs=>hq _ _ (h6 s' hs)⟩
  cases e<;>first | exact ha.elim | exact ihb (fun e s hb=>JE hq hb) ha
theorem Md {g:bV} {ps wr:List Nat} {as bd:bp} {Q:Exit→S→Prop} {s:S} {gv:AV} {xs:List (List AV)} {α:Type} (hd:α→S) (I:Nat→α→Prop)
  (hg:aG s g=some gv) (hit:C.i gv xs) (hlen:∀ x∈xs,x.length=ps.length) {y0:α} (h0:Le s (hd y0)∨s=hd y0) (hI0:I 0 y0) (hgd:∀ y,aG (hd y) g=some gv)
  (round:∀ i x y,xs[i]? = some x→I i y→aw C as (uw (aw C bd (ER wr (fun s'=>∃ z,s'=hd z∧I (i + 1) z) Q))) (ov ps x (hd y)))
  (fin:∀ y,I xs.length y→Q .normal (hd y)):aw C (.mW g ps wr as bd) Q s:=by
 simp only [aw,hg,aM]
 refine ⟨xs,hit,hlen,fun i s'=>∃ y,s'=hd y∧I i y,?_,?_,?_,?_⟩
 ·rcases h0 with h0 | h0
  ·exact ⟨hd y0,.inl ⟨h0,y0,rfl,hI0⟩⟩
  ·exact ga ⟨y0,h0,hI0⟩
 ·rintro i s' ⟨y,rfl,_⟩; exact hgd y
 ·rintro i x s' hx ⟨y,rfl,hy⟩; exact round i x y hx hy
 ·rintro s' ⟨y,rfl,hy⟩; exact fin y hy
def flat (keep:List Nat):Nat→bp→bp × Nat
 | i,.join a b =>
  let p:=flat keep (i + 1) a
  let q:=flat keep p.2 b
  (if keep.contains i then .join p.1 q.1 else .seq p.1 q.1,q.2)
 | i,.seq a b =>
  let p:=flat keep i a
  let q:=flat keep p.2 b
  (.seq p.1 q.1,q.2)
 | i,.cond c a b =>
  let p:=flat keep i a
  let q:=flat keep p.2 b
  (.cond c p.1 q.1,q.2)
 | i,.block id c=>(.block id (flat keep i c).1,(flat keep i c).2)
 | i,.mW g ps wr as bd =>
  let p:=flat keep i as
  let q:=flat keep p.2 bd
  (.mW g ps wr p.1 q.1,q.2)
 | i,.loop c=>(.loop (flat keep i c).1,(flat keep i c).2)
 | i,.scope l c r =>
  let p:=flat keep i c
  let q:=flat keep p.2 r
  (.scope l p.1 q.1,q.2)
 | i,c=>(c,i)
theorem aj {keep:List Nat}:∀ {c:bp} {i:Nat} {Q:Exit→S→Prop} {s:S},aw C (flat keep i c).1 Q s→aw C c Q s:=by
 intro c
 induction c with
 | join a b iha ihb =>
  intro i Q s h
  simp only [flat] at h
  split at h
  ·exact iha (j4 (fun e s ha=>iT (fun s h=>jK (fun s h=>ihb h) h) (fun _ _ h=>h) ha) h)
  ·exact iha (j4 (fun e s ha=>iT (fun s h=>ga (ihb h)) (fun _ _ h=>h) ha) h)
 | seq a b iha ihb=>intro i Q s h; exact iha (j4 (fun e s ha=>iT (fun s h=>ihb h) (fun _ _ h=>h) ha) h)
 | cond c a b iha ihb =>
  intro i Q s h
  simp only [flat,aw] at h ⊢
  obtain ⟨v,hv,h⟩:=ah h
  rw [hv]
  cases v<;>try (exact h.elim)
  exact ⟨fun e=>iha (h.1 e),fun e=>ihb (h.2 e)⟩
 | block id c ih=>intro i Q s h; exact ih h
 | scope l c r ihc ihr =>
  intro i Q s h
  refine ihc (j4 (fun e s ha=>?_) h)
  cases e with
  | goto l'=>exact ⟨ha.1,ihr ha.2⟩
  | _=>exact ha
 | mW g ps wr as bd iha ihb =>
  intro i Q s h
  simp only [flat,aw] at h ⊢
  obtain ⟨gv,hgv,xs,h1,h2,F,h3,h4,h5,h6⟩:=ah h
  rw [hgv]
  refine ⟨xs,h1,h2,F,h3,h4,fun i x s' hx hs=>iha (j4 (fun e s ha=>?_) (h5 i x s' hx hs)),h6⟩
  cases e<;>first | exact ha.elim | exact ihb ha
 | loop c ih =>
  intro i Q s h
  exact jK (fun s ⟨n,h⟩=>⟨n,o3 (F:=aw C (flat keep i c).1) (G:=aw C c) (fun Q Q' s hq h=>j4 hq (ih h)) (fun _ _ h=>h) h⟩) h
 | _=>intro i Q s h; exact h
theorem Gq {c:bp} {Q:Exit→S→Prop} {α:Type} (hd:α→S) (μ:α→Nat) (I:α→Prop)
  (round:∀ x,I x→aw C c (j8 (down fun s=>∃ y,s=hd y∧I y∧μ y < μ x) Q) (hd x)) {x:α} (hx:I x) {s:S} (h0:Le s (hd x)∨s=hd x):aw C (.loop c) Q s:=by
 have key:∀ n x,I x→μ x < n→m5 (aw C c) Q n (hd x):=by
  intro n
  induction n with
  | zero=>intro x _ h; omega
  | succ n ih =>
   intro x hx hn
   refine j4 ?_ (round x hx)
   intro e s ha
   refine iT ?_ (fun _ _ h=>h) ha
   intro s hd
   refine jK ?_ hd
   rintro s ⟨y,rfl,hy,hlt⟩
   exact ih y hy (by omega)
 rcases h0 with h0|rfl
 ·exact ⟨hd x,.inl ⟨h0,μ x + 1,key _ x hx (by omega)⟩⟩
 ·exact ga ⟨μ x + 1,key _ x hx (by omega)⟩
end
theorem Sz (k:IntKind) (n:Int):i6 (.int k n)=.dat (.int k n) none:=rfl
theorem O7 (b:Bool):i6 (.bool b)=.dat (.bool b) none:=rfl
theorem Me (k:FloatKind) (n:Nat):i6 (.float k n)=.dat (.float k n) none:=rfl
theorem SA (s:ByteArray):i6 (.str s)=.dat (.str s) none:=rfl
theorem O8:i6 .Az=.dat .Az none:=rfl
theorem O9:i6 .bw=.dat .bw none:=rfl
theorem Us (xs:List (List AV)):i6 (.sl xs)=.dat (.sl xs) none:=rfl
theorem Ut (f:Fn) (as bs:List AV):i6 (.fn f as bs)=.dat (.fn f as bs) none:=rfl
theorem SB (cs:List AV):i6 (.agg cs)=.dat (.agg cs) none:=rfl
theorem SC (cs:List AV):i6 (.ref cs)=.rp cs:=rfl
theorem Mf (i:Nat) (a:AV) (r:List AV):slotsOf i (a :: r)=(i,i6 a) :: slotsOf (i + 1) r:=rfl
theorem JF (i:Nat):slotsOf i []=[]:=rfl
theorem Pa (as:List AV):I7 as=⟨slotsOf 0 as,[],[],4⟩:=rfl
theorem HK (i k:Nat) (a:AV) (r:List (Option AV)):kG i k (some a :: r)=(i,i6 a) :: kG (i + 1) k r:=rfl
theorem HL (i k:Nat) (r:List (Option AV)):kG i k (none :: r)=(i,.ptr k 0) :: kG (i + 1) (k + 1) r:=rfl
theorem HM (i k:Nat):kG i k []=[]:=rfl
theorem JG (k:Nat) (cs:List AV) (css:List (List AV)):qJ k (cs :: css)=(k,⟨cs,[]⟩) :: qJ (k + 1) css:=rfl
theorem HN (k:Nat):qJ k []=[]:=rfl
theorem Mg (css:List (List AV)) (as:List (Option AV)):Gk css as=⟨kG 0 0 as,qJ 0 css,[],4⟩:=rfl
theorem Pb (res:List nD) (r:AV) (s:S):fin res r none .normal s=ak (dS s res) fun p=>p.1=r:=by simp [fin,Ff]
theorem Pc (res:List nD) (r:AV) (s:S):fin res r none .ret s=ak (dS s res) fun p=>p.1=r:=by simp [fin,Ff]
theorem Pd (res:List nD) (r:AV) (e:Nat) (s:S):fin res r (some e) .normal s=ak (dS s res) fun p=>p.1=r∧Ff (some e) p.2 s.live:=rfl
theorem Pe (res:List nD) (r:AV) (e:Nat) (s:S):fin res r (some e) .ret s=ak (dS s res) fun p=>p.1=r∧Ff (some e) p.2 s.live:=rfl
theorem Uu (e q:Nat) (lv:List (Nat × Nat)):Ff (some e) (some q) lv=(eA q lv=some e):=rfl
theorem Mh (res:List nD) (r:AV) (css:List (List AV)) (s:S):I8 res r none css .normal s=ak (dS s res) fun p=>p.1=r∧sY s.boxes 0 css:=by simp [I8,Ff]
theorem Mi (res:List nD) (r:AV) (css:List (List AV)) (s:S):I8 res r none css .ret s=ak (dS s res) fun p=>p.1=r∧sY s.boxes 0 css:=by simp [I8,Ff]
theorem Mj (l:List (Nat × dO)) (k:Nat):sY l k []=True:=rfl
theorem Pf (l:List (Nat × dO)) (k:Nat) (cs:List AV) (css:List (List AV)):sY l k (cs :: css)=(ak (cL k l) (fun x=>x.cells=cs)∧sY l (k + 1) css):=rfl
def Mk:Option SV→Option (AV × Option Nat)
 | some (.dat a q)=>some (a,q)
 | _=>none
theorem Pg (a:AV) (q:Option Nat):Mk (some (.dat a q))=some (a,q):=rfl
theorem Pj (s:S) (t:Nat):dS s [.tmp t]=Mk (lk t s.slots):=rfl
def JH (sz:Option Nat) (bx:List (Nat × dO)):Option SV→Option (AV × Option Nat)
 | some (.ptr b off)=>match cL b bx with
  | some x=>match aD x.cells off sz with
   | some a=>some (a,match sz with | none=>eA off x.tags | some _=>none)
   | none=>none
  | none=>none
 | _=>none
def A9 (off:Nat) (sz:Option Nat):Option dO→Option (AV × Option Nat)
 | some x=>match aD x.cells off sz with
  | some a=>some (a,match sz with | none=>eA off x.tags | some _=>none)
  | none=>none
 | none=>none
theorem Pk (s:S) (t:Nat) (sz:Option Nat):dS s [.cell t sz]=JH sz s.boxes (lk t s.slots):=rfl
theorem Ml (sz:Option Nat) (bx:List (Nat × dO)) (b off:Nat):JH sz bx (some (.ptr b off))=A9 off sz (cL b bx):=by
 simp only [JH,A9]
theorem Mm (off n:Nat) (x:dO):A9 off (some n) (some x)=(aD x.cells off (some n)).map fun a=>(a,none):=by
 simp only [A9]<;>cases aD x.cells off (some n)<;>rfl
theorem Mn (off:Nat) (x:dO):A9 off none (some x)=(x.cells[off]?).map fun a=>(a,eA off x.tags):=by
 simp only [A9,aD]<;>cases x.cells[off]?<;>rfl
theorem Pm (s:S):dS s []=some (.cI [],none):=rfl
theorem Pn (s:S) (x y:nD) (r:List nD):dS s (x :: y :: r)=(mc s (x :: y :: r)).map fun as=>(.cI as,none):=rfl
def JI:Option (AV × Option Nat)→Option (List AV)→Option (List AV)
 | some p,some as=>some (p.1 :: as)
 | _,_=>none
theorem Mo (a:AV) (q:Option Nat) (as:List AV):JI (some (a,q)) (some as)=some (a :: as):=rfl
theorem Po (s:S) (x:nD) (r:List nD):mc s (x :: r)=JI (dS s [x]) (mc s r):=by
 simp only [mc,JI,dS]<;>cases Hx s x<;>cases mc s r<;>rfl
theorem Mp (s:S):mc s []=some []:=rfl
def Vp :=
 And.intro @Sz (And.intro @O7 (And.intro @Me (And.intro @SA (And.intro @O8 (And.intro @O9 (And.intro @Us (And.intro @Ut (And.intro @SB (And.intro @SC (And.intro @Mf (And.intro @JF (And.intro @Pa (And.intro @HK (And.intro @HL (And.intro @HM (And.intro @JG (And.intro @HN (And.intro @Mg (And.intro @Pb (And.intro @Pc (And.intro @Pd (And.intro @Pe (And.intro @Uu (And.intro @Mh (And.intro @Mi (And.intro @Mj (And.intro @Pf (And.intro @Pg (@Pj)))))))))))))))))))))))))))))
def Vq :=
 And.intro @Pk (And.intro @Ml (And.intro @Mm (And.intro @Mn (And.intro @Pm (And.intro @Pn (And.intro @Mo (And.intro @Po (@Mp))))))))
def EW :=
 And.intro @Vp (@Vq)
end Go.Eng
namespace Go.Eng
open Go
abbrev I (n:Int):AV:=.int .i64 n
abbrev B (b:Bool):AV:=.bool b
abbrev D (n:Nat):AV:=.float .f64 n
def bJ (n:Int):Int:=IntKind.i64.wrap n
def aE {α:Type} (f:α→List AV):Option (List α)→AV
 | none=>.bw
 | some l=>.sl (l.map f)
def az (n:Int):List AV:=[I n]
structure Ph where
 on:Bool
 min:Int
 KZ:Int
 max:Int
 top:Int
 step:Int
 dP:Int
 red:Int
 walk:Int
 dQ:Int
 kH:Int
 lock:Bool
 rest:Bool
 deriving Inhabited,DecidableEq
def Ph.cells (p:Ph):List AV:=[B p.on,I p.min,I p.KZ,I p.max,I p.top,I p.step,I p.dP,I p.red,I p.walk,I p.dQ,I p.kH,B p.lock,B p.rest]
structure uM where
 phase:Int
 on:Nat
 off:Nat
 delay:Nat
 extend:Nat
 maxOn:Int
 qL:Int
 deriving Inhabited,DecidableEq
def uM.cells (d:uM):List AV:=[I d.phase,D d.on,D d.off,D d.delay,D d.extend,I d.maxOn,I d.qL]
structure Rl where
 bars:Int
 clear:Int
 gD:Int
 exit:Int
 delay:Int
 green:Int
 dc:Int
 hold:Int
 stay:Int
 most:Int
 limit:Int
 deriving Inhabited,DecidableEq
def Rl.cells (r:Rl):List AV:=[I r.bars,I r.clear,I r.gD,I r.exit,I r.delay,I r.green,I r.dc,I r.hold,I r.stay,I r.most,I r.limit]
structure Bs where
 set:Int
 lock:Int
 deriving Inhabited,DecidableEq
def Bs.cells (b:Bs):List AV:=[I b.set,I b.lock]
structure Gr where
 a:Option (List Int)
 b:Option (List Int)
 deriving Inhabited,DecidableEq
def Gr.cells (g:Gr):List AV:=[aE az g.a,aE az g.b]
structure Tb where
 phases:List Ph
 groups:Option (List Gr)
 conflict:List Int
 aP:Option (List uM)
 bz:Option (List Rl)
 ki:Option (List Bs)
 extend:Int
 gE:Int
 start:Int
 revert:Int
 least:Int
 cV:List Int
 o4:Int
 share:Int
 deriving Inhabited,DecidableEq
def Tb.cells (t:Tb):List AV :=
 t.phases.flatMap Ph.cells++(aE Gr.cells t.groups :: (t.conflict.map I++(aE uM.cells t.aP :: aE Rl.cells t.bz :: aE Bs.cells t.ki ::
  I t.extend :: I t.gE :: I t.start :: I t.revert :: I t.least :: (t.cV.map I++[I t.o4,I t.share]))))
structure Tb.Ok (t:Tb):Prop where
 phases:t.phases.length=8
 conflict:t.conflict.length=8
 cV:t.cV.length=8
 groups:(t.groups.getD []).length≤1048576
 rows:∀ g∈t.groups.getD [],(g.a.getD []).length≤1048576∧(g.b.getD []).length≤1048576
 SD:(t.aP.getD []).length≤1048576
 bz:(t.bz.getD []).length≤1048576
 ki:(t.ki.getD []).length≤1048576
theorem aK {α:Type} {f:α→List AV} {z:Nat} (hf:∀ x,(f x).length=z):∀ {l:List α},(l.flatMap f).length=l.length * z
 | []=>by simp
 | x :: l=>by simp [List.flatMap_cons,hf,aK hf (l:=l),Nat.add_mul]; omega
theorem Ph.len (p:Ph):p.cells.length=13:=rfl
theorem Tb.len {t:Tb} (h:t.Ok):t.cells.length=131:=by
 simp [Tb.cells,aK Ph.len,h.phases,h.conflict,h.cV]
theorem B3 {α:Type}:∀ {l:List α} {i:Nat} {x:α},l[i]? = some x→l=l.take i++x :: l.drop (i + 1)
 | [],i,x,h=>by simp at h
 | y :: l,0,x,h=>by
  simp at h; subst h; simp
 | y :: l,i + 1,x,h=>by
  have:=B3 (l:=l) (i:=i) (x:=x) (by simpa using h)
  simp only [List.take_succ_cons,List.drop_succ_cons,List.cons_append]
  exact congrArg (y :: ·) this
theorem jL {α:Type} {f:α→List AV} {l:List α} {i:Nat} {x:α} (h:l[i]? = some x):l.flatMap f=(l.take i).flatMap f++(f x++(l.drop (i + 1)).flatMap f):=by
 conv=>lhs; rw [B3 h]
 rw [List.flatMap_append,List.flatMap_cons]
theorem kj {α:Type} {l:List α} {i:Nat} {x:α} (h:l[i]? = some x):(l.take i).length=i:=by
 have:=(List.getElem?_eq_some_iff.1 h).1
 simp; omega
theorem fQ {pre mid post:List AV} {off z:Nat} (h1:pre.length=off) (h2:mid.length=z):aD (pre++(mid++post)) off (some z)=some (.agg mid):=by
 subst h1 h2
 have hle:pre.length + mid.length≤(pre++(mid++post)).length:=by simp
 simp only [aD,hle,if_true,Option.some.injEq,AV.agg.injEq]
 simp
theorem o5 {pre mid post ps:List AV} {off:Nat} (h1:pre.length=off) (h2:mid.length=ps.length):setCells (pre++(mid++post)) off ps=pre++(ps++post):=by
 subst h1
 simp only [setCells]
 rw [← h2]
 simp [List.drop_append]
theorem ep {cs ps:List AV} (h:cs.length=ps.length):setCells cs 0 ps=ps:=by
 simp only [setCells,List.take_zero,List.nil_append,Nat.zero_add,← h,List.drop_length,List.append_nil]
theorem Tb.jM {t:Tb} {i:Nat} {p:Ph} (h:t.phases[i]? = some p):aD t.cells (i * 13) (some 13)=some (.agg p.cells):=by
 unfold Tb.cells
 rw [jL h,List.append_assoc,List.append_assoc]
 exact fQ (by rw [aK Ph.len,kj h]) rfl
theorem JJ {α:Type} {l:List α} {i:Nat} {x y:α} (h:l[i]? = some x):l.set i y=l.take i++y :: l.drop (i + 1):=by
 have hlt:=(List.getElem?_eq_some_iff.1 h).1
 rw [List.set_eq_take_append_cons_drop,if_pos hlt]
theorem Tb.HO {t:Tb} {i:Nat} {p q:Ph} (h:t.phases[i]? = some p):setCells t.cells (i * 13) q.cells={ t with phases:=t.phases.set i q }.cells:=by
 unfold Tb.cells
 simp only
 rw [JJ h,List.flatMap_append,List.flatMap_cons]
 conv=>lhs; rw [jL h]
 rw [List.append_assoc,List.append_assoc,List.append_assoc,List.append_assoc]
 exact o5 (by rw [aK Ph.len,kj h]) rfl
end Go.Eng
namespace Go.Eng.Z
open Go
def o (d:Nat) (x:bU):CO:=⟨some d,x,none⟩
def p (d:Nat) (x:bU) (g:Nat):CO:=⟨some d,x,some (g,true)⟩
def q (d:Nat) (x:bU) (g:Nat):CO:=⟨some d,x,some (g,false)⟩
def n (x:bU):CO:=⟨none,x,none⟩
def M (d x:Nat):CO:=⟨some d,.mv (.t x),none⟩
def V (d:Nat) (v:AV):CO:=⟨some d,.mv (.k v),none⟩
def m (x:Nat):bU:=.mv (.t x)
def v (x:AV):bU:=.mv (.k x)
def l (x:Nat):bU:=.ld (.t x) none
def L (x z:Nat):bU:=.ld (.t x) (some z)
def f (x z:Nat):bU:=.fa (.t x) z
def s (x y z:Nat):bU:=.st (.t x) (.t y) z
def ss (x:Nat) (y:AV) (z:Nat):bU:=.st (.t x) (.k y) z
def A (x y a b:Nat):bU:=.Hf (.t x) (.t y) a b
def a (x y z:Nat):bU:=.NI (.t x) (.t y) z
def P (x y:Nat):bU:=.pick (.t x) (.t y) (.k (.bool false))
def Q (x y:Nat):bU:=.pick (.t x) (.k (.bool true)) (.t y)
def h (x:Nat):bU:=.Hg (.t x)
def w (x:Nat):bU:=.box (.t x)
def b (g:BinOp) (x y:Nat):bU:=.bin g (.t x) (.t y)
def bb (g:BinOp) (x:Nat) (y:AV):bU:=.bin g (.t x) (.k y)
def e (x y:Nat):bU:=.ext (.t x) y
def i (x:Int):AV:=.int .i64 x
def t (x:Nat):bV:=.t x
def k (x:AV):bV:=.k x
def r (x:List CO) (y:bp):bp:=.seq (.KY x) y
def R (x:List CO):bp:=.KY x
def j (x y:bp):bp:=.join x y
def c (x:Nat) (y z:bp):bp:=.cond (.t x) y z
def u (x:Nat) (y:bp):bp:=.block x y
def y:bp:=.ret
def z:bp:=.skip
def T:AV:=.bool true
def F:AV:=.bool false
def H :=
 And.intro @o.eq_1 (And.intro @p.eq_1 (And.intro @q.eq_1 (And.intro @n.eq_1 (And.intro @M.eq_1 (And.intro @V.eq_1 (And.intro @m.eq_1 (And.intro @v.eq_1 (And.intro @l.eq_1 (And.intro @L.eq_1 (And.intro @f.eq_1 (And.intro @s.eq_1 (And.intro @ss.eq_1 (And.intro @A.eq_1 (And.intro @a.eq_1 (And.intro @P.eq_1 (And.intro @Q.eq_1 (And.intro @h.eq_1 (And.intro @w.eq_1 (And.intro @b.eq_1 (And.intro @bb.eq_1 (And.intro @e.eq_1 (And.intro @i.eq_1 (And.intro @t.eq_1 (And.intro @k.eq_1 (And.intro @r.eq_1 (And.intro @R.eq_1 (And.intro @j.eq_1 (And.intro @c.eq_1 (And.intro @u.eq_1 (And.intro @y.eq_1 (And.intro @z.eq_1 (And.intro @T.eq_1 @F.eq_1))))))))))))))))))))))))))))))))
end Go.Eng.Z
