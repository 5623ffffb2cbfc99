/- The engine and the library,part 6 of 18: what the proofs of this seat need of them. -/
import Derived.Test.YtdhlkekmkollhaaGreatPk5
set_option linter.unnecessarySimpa false
set_option linter.unusedSimpArgs false
set_option linter.unusedVariables false
set_option linter.defProp false
set_option maxRecDepth 10000
set_option maxHeartbeats 4000000
namespace Go.Eng
open Go
class Kn (α:Type) where
 run:α→Prop
class XY where
 run:SV→List (Nat × Nat)→Prop
def wv {α:Type} (o:Option α) [k:Kn α]:Prop:=an o k.run
theorem dh {α:Type} (o:Option α) (k:α→Prop):an o k=@wv α o ⟨k⟩:=rfl
theorem QJ {α:Type} (a:α) (k:α→Prop):@wv α (some a) ⟨k⟩=k a:=rfl
theorem QK {α:Type} (k:α→Prop):@wv α none ⟨k⟩=False:=rfl
theorem TE {α:Type} {o:Option α} {k:α→Prop} (a:α) (h:o=some a) (hk:k a):@wv α o ⟨k⟩:=by subst h; exact hk
def AD (C:aZ) (f:Nat) (as:List AV) (id:Nat) (lv:List (Nat × Nat)) (k:SV→List (Nat × Nat)→Prop):Prop :=
 ∃ r fr,C.c f as r fr∧k (.dat r (fr.map fun _=>id)) (match fr with | some e=>(id,e) :: lv | none=>lv)
def cl (C:aZ) (f:Nat) (as:List AV) (id:Nat) (lv:List (Nat × Nat)) [k:XY]:Prop:=AD C f as id lv k.run
theorem dz (C:aZ) (f:Nat) (as:List AV) (id:Nat) (lv:List (Nat × Nat)) (k:SV→List (Nat × Nat)→Prop):AD C f as id lv k=@cl C f as id lv ⟨k⟩:=rfl
@[congr] theorem Wn {C:aZ} (f:Nat) {as as':List AV} (id:Nat) (lv:List (Nat × Nat)) (k:SV→List (Nat × Nat)→Prop) (h:as=as'):AD C f as id lv k=AD C f as' id lv k:=by rw [h]
theorem af {C:aZ} {f:Nat} {as:List AV} {id:Nat} {lv:List (Nat × Nat)} {k:SV→List (Nat × Nat)→Prop} {r:AV} (h:C.c f as r none) (hk:k (.dat r none) lv):@cl C f as id lv ⟨k⟩:=⟨r,none,h,hk⟩
theorem K4 {C:aZ} {f:Nat} {as:List AV} {id:Nat} {lv:List (Nat × Nat)} {k:SV→List (Nat × Nat)→Prop} {r:AV} {e:Nat} (h:C.c f as r (some e)) (hk:k (.dat r (some id)) ((id,e) :: lv)):@cl C f as id lv ⟨k⟩:=⟨r,some e,h,hk⟩
class XZ where
 run:SV→List (Nat × dU)→List (Nat × Nat)→Prop
def DC (C:aZ) (f:Nat) (css:List (List AV)) (as:List (Option AV)) (ids:List Nat) (id:Nat) (bx:List (Nat × dU)) (lv:List (Nat × Nat)) (k:SV→List (Nat × dU)→List (Nat × Nat)→Prop):Prop :=
 ∃ r fr css',C.p f css as r fr css'∧k (.dat r (fr.map fun _=>id)) (gU ids css' bx) (match fr with | some e=>(id,e) :: lv | none=>lv)
def XB (C:aZ) (f:Nat) (css:List (List AV)) (as:List (Option AV)) (ids:List Nat) (id:Nat) (bx:List (Nat × dU)) (lv:List (Nat × Nat)) [k:XZ]:Prop:=DC C f css as ids id bx lv k.run
theorem bJ (C:aZ) (f:Nat) (css:List (List AV)) (as:List (Option AV)) (ids:List Nat) (id:Nat) (bx:List (Nat × dU)) (lv:List (Nat × Nat)) (k:SV→List (Nat × dU)→List (Nat × Nat)→Prop):DC C f css as ids id bx lv k=@XB C f css as ids id bx lv ⟨k⟩:=rfl
theorem aT {C:aZ} {f:Nat} {css:List (List AV)} {as:List (Option AV)} {ids:List Nat} {id:Nat} {bx:List (Nat × dU)} {lv:List (Nat × Nat)} {k:SV→List (Nat × dU)→List (Nat × Nat)→Prop} {r:AV} {css':List (List AV)} (h:C.p f css as r none css') (hk:k (.dat r none) (gU ids css' bx) lv):@XB C f css as ids id bx lv ⟨k⟩:=⟨r,none,css',h,hk⟩
class X0 where
 run:SV→Prop
def DD (C:aZ) (f:Nat) (css:List (List AV)) (as:List (Option AV)) (k:SV→Prop):Prop:=∃ r,C.p f css as r none css∧k (.dat r none)
def XC (C:aZ) (f:Nat) (css:List (List AV)) (as:List (Option AV)) [k:X0]:Prop:=DD C f css as k.run
theorem TF (C:aZ) (f:Nat) (css:List (List AV)) (as:List (Option AV)) (k:SV→Prop):DD C f css as k=@XC C f css as ⟨k⟩:=rfl
theorem bY {C:aZ} {f:Nat} {css:List (List AV)} {as:List (Option AV)} {k:SV→Prop} {r:AV} (h:C.p f css as r none css) (hk:k (.dat r none)):@XC C f css as ⟨k⟩:=⟨r,h,hk⟩
def Im (x:Option dU) (y:Option (List (List AV))):Option (List (List AV)) :=
 match x,y with
 | some ⟨cs,[]⟩,some css=>some (cs :: css)
 | _,_=>none
theorem QL (ro:List Nat) (i:Nat):oa ro i []=[]:=rfl
theorem TH (ro:List Nat) (i:Nat) (o:CO) (r:List CO):oa ro i (o :: r)=(bif ro.contains i then o.ro else o) :: oa ro (i + 1) r:=rfl
theorem WG (d:Option Nat) (o:bV) (g:Option (Nat × Bool)):CO.ro ⟨d,o,g⟩=⟨d,o.ro,g⟩:=rfl
theorem TI (f:Nat) (as:List bW):bV.ro (.bT f as)=.zU f as:=rfl
theorem TJ (g:bW) (as:List bW):bV.ro (.gT g as)=.rU g as:=rfl
section
variable {C:aZ} {Q:Exit→S→Prop} {K:SV→S→Prop} {J:S→Prop}
variable (sl:List (Nat × SV)) (bx:List (Nat × dU)) (lv:List (Nat × Nat)) (nx:Nat)
theorem E2 (n m:Nat) (v:SV) (r:List (Nat × SV)):lk n ((m,v) :: r)=bif n == m then some v else lk n r:=rfl
theorem yW (n m:Nat) (v:dU) (r:List (Nat × dU)):cY n ((m,v) :: r)=bif n == m then some v else cY n r:=rfl
theorem vY (n m:Nat) (v:Nat) (r:List (Nat × Nat)):eA n ((m,v) :: r)=bif n == m then some v else eA n r:=rfl
theorem sC (n:Nat):eA n []=none:=rfl
theorem QM (n m:Nat) (b v:dU) (r:List (Nat × dU)):rO n b ((m,v) :: r)=bif n == m then (m,b) :: r else (m,v) :: rO n b r:=rfl
theorem QN (n m:Nat) (v:Nat) (r:List (Nat × Nat)):rP n ((m,v) :: r)=bif n == m then rP n r else (m,v) :: rP n r:=rfl
theorem NK (n:Nat):rP n []=[]:=rfl
theorem TK (d:Nat) (v:SV):S.put ⟨sl,bx,lv,nx⟩ (some d) v=⟨(d,v) :: sl,bx,lv,nx⟩:=rfl
theorem QO (v:SV):S.put ⟨sl,bx,lv,nx⟩ none v=⟨sl,bx,lv,nx⟩:=rfl
theorem QS (n:Nat):cZ ⟨sl,bx,lv,nx⟩ (.t n)=lk n sl:=rfl
theorem QT (v:AV):cZ ⟨sl,bx,lv,nx⟩ (.k v)=some (.dat v none):=rfl
def Js:Option SV→Option AV
 | some (.dat a _)=>some a
 | some (.rp cs)=>some (.ref cs)
 | _=>none
theorem NL (cs:List AV):Js (some (.rp cs))=some (.ref cs):=rfl
theorem QU (a:AV) (q:Option Nat):Js (some (.dat a q))=some a:=rfl
theorem NM (n:Nat):aI ⟨sl,bx,lv,nx⟩ (.t n)=Js (lk n sl):=rfl
theorem NN (v:AV):aI ⟨sl,bx,lv,nx⟩ (.k v)=some v:=rfl
def P1:Option AV→Option (List AV)→Option (List AV)
 | some a,some as=>some (a :: as)
 | _,_=>none
theorem NO (a:AV) (as:List AV):P1 (some a) (some as)=some (a :: as):=rfl
theorem NP (x:bW) (r:List bW):dP ⟨sl,bx,lv,nx⟩ (x :: r)=P1 (aI ⟨sl,bx,lv,nx⟩ x) (dP ⟨sl,bx,lv,nx⟩ r):=rfl
theorem K5:dP ⟨sl,bx,lv,nx⟩ []=some []:=rfl
theorem NQ (b i:Nat):jD C b i [] J ⟨sl,bx,lv,nx⟩=J ⟨sl,bx,lv,nx⟩:=rfl
theorem QV (b i:Nat) (d:Option Nat) (o:bV) (r:List CO):jD C b i (⟨d,o,none⟩ :: r) J ⟨sl,bx,lv,nx⟩=bS C (b + i) o (fun v s'=>jD C b (i + 1) r J (s'.put d v)) ⟨sl,bx,lv,nx⟩:=rfl
def oK (want:Bool) (yes no:Prop):Option SV→Prop
 | some (.dat (.bool b) _)=>(b=want→yes)∧(b=!want→no)
 | some .undef=>no
 | _=>False
theorem NR (b i t:Nat) (w:Bool) (d:Option Nat) (o:bV) (r:List CO):jD C b i (⟨d,o,some (t,w)⟩ :: r) J ⟨sl,bx,lv,nx⟩ =
  oK w (bS C (b + i) o (fun v s'=>jD C b (i + 1) r J (s'.put d v)) ⟨sl,bx,lv,nx⟩) (jD C b (i + 1) r J (S.put ⟨sl,bx,lv,nx⟩ d .undef)) (lk t sl):=by
 simp only [jD,lG,oK]
 cases lk t sl with
 | none=>rfl
 | some v=>cases v with
  | dat a q=>cases a<;>rfl
  | ptr=>rfl
  | rp=>rfl
  | undef=>rfl
  | vs=>rfl
class KP where
 yes:Prop
 no:Prop
def gd (w:Bool) (v:Option SV) [k:KP]:Prop:=oK w k.yes k.no v
theorem dA (w:Bool) (yes no:Prop) (v:Option SV):oK w yes no v=@gd w v ⟨yes,no⟩:=rfl
theorem K6 (w:Bool) (yes no:Prop):@gd w (some .undef) ⟨yes,no⟩=no:=rfl
theorem K7 (yes no:Prop) (q:Option Nat):@gd true (some (.dat (.bool true) q)) ⟨yes,no⟩=yes:=by simp [gd,oK]
theorem Jt (yes no:Prop) (q:Option Nat):@gd true (some (.dat (.bool false) q)) ⟨yes,no⟩=no:=by simp [gd,oK]
theorem K8 (yes no:Prop) (q:Option Nat):@gd false (some (.dat (.bool false) q)) ⟨yes,no⟩=yes:=by simp [gd,oK]
theorem Ju (yes no:Prop) (q:Option Nat):@gd false (some (.dat (.bool true) q)) ⟨yes,no⟩=no:=by simp [gd,oK]
theorem WH (id:Nat) (x:bW):bS C id (.mv x) K ⟨sl,bx,lv,nx⟩=an (cZ ⟨sl,bx,lv,nx⟩ x) fun v=>K v ⟨sl,bx,lv,nx⟩:=rfl
def AE (a b:Option SV) (k:SV→Prop):AV→Prop
 | .bool t=>an a fun u=>an b fun v=>(t=true→k u)∧(t=false→k v)
 | _=>False
theorem QW (id:Nat) (c a b:bW):bS C id (.pick c a b) K ⟨sl,bx,lv,nx⟩=an (aI ⟨sl,bx,lv,nx⟩ c) (AE (cZ ⟨sl,bx,lv,nx⟩ a) (cZ ⟨sl,bx,lv,nx⟩ b) fun v=>K v ⟨sl,bx,lv,nx⟩):=rfl
def pk (a b:Option SV) (c:AV) [k:Kn SV]:Prop:=AE a b k.run c
theorem dB (a b:Option SV) (k:SV→Prop) (c:AV):AE a b k c=@pk a b c ⟨k⟩:=rfl
theorem NS (k:SV→Prop) (b:Option SV) (v:SV):@pk (some v) b (.bool true) ⟨k⟩=an b fun _=>k v:=by simp [pk,AE]
theorem NT (k:SV→Prop) (a:Option SV) (v:SV):@pk a (some v) (.bool false) ⟨k⟩=an a fun _=>k v:=by
 cases a<;>simp [pk,AE]
theorem NU (id:Nat) (cs:List AV):bS C id (.alloc cs) K ⟨sl,bx,lv,nx⟩=K (.ptr id 0) ⟨sl,(id,⟨cs,[]⟩) :: bx,lv,nx⟩:=rfl
theorem TL (id:Nat) (x:bW):bS C id (.box x) K ⟨sl,bx,lv,nx⟩=an (aI ⟨sl,bx,lv,nx⟩ x) fun a=>jh a none=true∧K (.ptr id 0) ⟨sl,(id,⟨a.cells,[]⟩) :: bx,lv,nx⟩:=rfl
def Tg (sz:Option Nat) (bx:List (Nat × dU)) (k:SV→Prop):SV→Prop
 | .ptr b off=>an (cY b bx) fun x=>an (aB x.cells off sz) fun a=>k (.dat a (match sz with | none=>eA off x.tags | some _=>none))
 | .rp cs=>an (aB cs 0 sz) fun a=>k (.dat a none)
 | _=>False
theorem WJ (id:Nat) (x:bW) (sz:Option Nat):bS C id (.ld x sz) K ⟨sl,bx,lv,nx⟩=an (cZ ⟨sl,bx,lv,nx⟩ x) (Tg sz bx fun v=>K v ⟨sl,bx,lv,nx⟩):=rfl
theorem QX (k:SV→Prop) (b off:Nat):Tg none bx k (.ptr b off)=an (cY b bx) fun x=>an (aB x.cells off none) fun a=>k (.dat a (eA off x.tags)):=rfl
theorem QY (k:SV→Prop) (b off n:Nat):Tg (some n) bx k (.ptr b off)=an (cY b bx) fun x=>an (aB x.cells off (some n)) fun a=>k (.dat a none):=rfl
theorem TM (k:SV→Prop) (sz:Option Nat) (cs:List AV):Tg sz bx k (.rp cs)=an (aB cs 0 sz) fun a=>k (.dat a none):=rfl
def bf (off sz:Nat) (q:Option Nat) (tags:List (Nat × Nat)):List (Nat × Nat) :=
 match q with
 | some q=>(off,q) :: tags.filter (fun p=>p.1 < off || off + sz≤p.1)
 | none=>tags.filter (fun p=>p.1 < off || off + sz≤p.1)
def TN (sz off:Nat) (x:dU) (k:dU→Prop):SV→Prop
 | .dat a q=>jh a q=true∧a.cells.length=sz∧off + sz≤x.cells.length∧k ⟨setCells x.cells off a.cells,bf off sz q x.tags⟩
 | _=>False
def Wo (sz:Nat) (bx:List (Nat × dU)) (v:Option SV) (k:List (Nat × dU)→Prop):SV→Prop
 | .ptr b off=>an (cY b bx) fun x=>an v (TN sz off x fun y=>k (rO b y bx))
 | _=>False
theorem WK (id:Nat) (x v:bW) (sz:Nat):bS C id (.st x v sz) K ⟨sl,bx,lv,nx⟩=an (cZ ⟨sl,bx,lv,nx⟩ x) (Wo sz bx (cZ ⟨sl,bx,lv,nx⟩ v) fun b=>K .undef ⟨sl,b,lv,nx⟩):=by
 show an _ _=an _ _
 cases hx:cZ ⟨sl,bx,lv,nx⟩ x with
 | none=>rfl
 | some p=>cases p with
  | ptr b off =>
   show an _ _=an _ _
   cases hb:cY b bx with
   | none=>rfl
   | some y =>
    show an _ _=an _ _
    cases hv:cZ ⟨sl,bx,lv,nx⟩ v with
    | none=>rfl
    | some u=>cases u with
     | dat a q=>cases q<;>rfl
     | _=>rfl
  | _=>rfl
theorem TO (sz b off:Nat) (v:Option SV) (k:List (Nat × dU)→Prop):Wo sz bx v k (.ptr b off)=an (cY b bx) fun x=>an v (TN sz off x fun y=>k (rO b y bx)):=rfl
theorem TP (sz off:Nat) (cs:List AV) (tg:List (Nat × Nat)) (k:dU→Prop) (a:AV) (q:Option Nat):TN sz off ⟨cs,tg⟩ k (.dat a q)=(jh a q=true∧a.cells.length=sz∧off + sz≤cs.length∧k ⟨setCells cs off a.cells,bf off sz q tg⟩):=rfl
theorem NV (off sz:Nat):bf off sz none []=[]:=rfl
theorem NW (off sz q:Nat):bf off sz (some q) []=[(off,q)]:=rfl
def TQ (off:Nat) (k:SV→Prop):SV→Prop
 | .ptr b o=>k (.ptr b (o + off))
 | .rp cs=>k (.rp (cs.drop off))
 | _=>False
theorem WL (id:Nat) (x:bW) (off:Nat):bS C id (.fa x off) K ⟨sl,bx,lv,nx⟩=an (cZ ⟨sl,bx,lv,nx⟩ x) (TQ off fun v=>K v ⟨sl,bx,lv,nx⟩):=rfl
theorem TR (k:SV→Prop) (b o off:Nat):TQ off k (.ptr b o)=k (.ptr b (o + off)):=rfl
theorem TS (k:SV→Prop) (cs:List AV) (off:Nat):TQ off k (.rp cs)=k (.rp (cs.drop off)):=rfl
def TT (d:Nat) (k:SV→Prop):SV→Prop
 | .ptr b o=>k (.ptr b (o + d))
 | .rp cs=>k (.rp (cs.drop d))
 | _=>False
theorem TU (id:Nat) (x i:bW) (n z:Nat):bS C id (.GN x i n z) K ⟨sl,bx,lv,nx⟩=an (cZ ⟨sl,bx,lv,nx⟩ x) fun p=>an (aI ⟨sl,bx,lv,nx⟩ i) fun a=>an (idxOf a) fun i=>(0≤i∧i < n)∧TT (i.toNat * z) (fun v=>K v ⟨sl,bx,lv,nx⟩) p:=rfl
theorem TV (k:SV→Prop) (b o d:Nat):TT d k (.ptr b o)=k (.ptr b (o + d)):=rfl
theorem TW (k:SV→Prop) (cs:List AV) (d:Nat):TT d k (.rp cs)=k (.rp (cs.drop d)):=rfl
theorem TX (k:IntKind) (i:Int):idxOf (.int k i)=some i:=rfl
theorem TY (id:Nat) (x i:bW) (z:Nat):bS C id (.Qm x i z) K ⟨sl,bx,lv,nx⟩=an (aI ⟨sl,bx,lv,nx⟩ x) fun l=>an (aI ⟨sl,bx,lv,nx⟩ i) fun a=>an (idxOf a) fun i=>an (rowsOf l) fun xs=>(0≤i∧i < xs.length)∧an (xs[i.toNat]?) fun row=>row.length=z∧K (.rp row) ⟨sl,bx,lv,nx⟩:=rfl
theorem QZ (xs:List (List AV)):rowsOf (.sl xs)=some xs:=rfl
theorem NX:rowsOf .bl=some []:=rfl
def G8 (k:List AV→Prop):AV→Prop
 | .agg cs=>k cs
 | _=>False
theorem TZ (k:List AV→Prop) (cs:List AV):G8 k (.agg cs)=k cs:=rfl
theorem T6 (id:Nat) (x:bW) (off:Nat) (sz:Option Nat):bS C id (.Dl x off sz) K ⟨sl,bx,lv,nx⟩=an (aI ⟨sl,bx,lv,nx⟩ x) (G8 fun cs=>an (aB cs off sz) fun a=>K (.dat a none) ⟨sl,bx,lv,nx⟩):=rfl
theorem T7 (id:Nat) (x i:bW) (n z:Nat) (sz:Option Nat):bS C id (.Cx x i n z sz) K ⟨sl,bx,lv,nx⟩=an (aI ⟨sl,bx,lv,nx⟩ x) (G8 fun cs=>an (aI ⟨sl,bx,lv,nx⟩ i) fun a=>an (idxOf a) fun i=>(0≤i∧i < n)∧an (aB cs (i.toNat * z) sz) fun a=>K (.dat a none) ⟨sl,bx,lv,nx⟩):=rfl
theorem T8 (id:Nat) (op:BinOp) (x y:bW):bS C id (.bin op x y) K ⟨sl,bx,lv,nx⟩=an (aI ⟨sl,bx,lv,nx⟩ x) fun a=>an (aI ⟨sl,bx,lv,nx⟩ y) fun b=>an (dI op a b) fun v=>K (.dat v none) ⟨sl,bx,lv,nx⟩:=rfl
theorem T9 (id:Nat) (ks:List CK) (neg:Bool) (x y:bW):bS C id (.eqc ks neg x y) K ⟨sl,bx,lv,nx⟩=an (aI ⟨sl,bx,lv,nx⟩ x) (G8 fun as=>an (aI ⟨sl,bx,lv,nx⟩ y) (G8 fun bs=>an (cX ks as bs) fun e=>K (.dat (.bool (e != neg)) none) ⟨sl,bx,lv,nx⟩)):=rfl
theorem WM (id:Nat) (neg:Bool) (x y:bW):bS C id (.bb neg x y) K ⟨sl,bx,lv,nx⟩=an (aI ⟨sl,bx,lv,nx⟩ x) fun a=>an (aI ⟨sl,bx,lv,nx⟩ y) fun b=>an (Ta neg a b) fun v=>K (.dat v none) ⟨sl,bx,lv,nx⟩:=rfl
theorem WN (id:Nat) (op:UnOp) (x:bW):bS C id (.un op x) K ⟨sl,bx,lv,nx⟩=an (aI ⟨sl,bx,lv,nx⟩ x) fun a=>an (Qp op a) fun v=>K (.dat v none) ⟨sl,bx,lv,nx⟩:=rfl
theorem Q0 (id:Nat) (k:IntKind) (x:bW):bS C id (.qm k x) K ⟨sl,bx,lv,nx⟩=an (aI ⟨sl,bx,lv,nx⟩ x) fun a=>an (Cy k a) fun v=>K (.dat v none) ⟨sl,bx,lv,nx⟩:=rfl
theorem Q1 (id:Nat) (k:FloatKind) (x:bW):bS C id (.Cf k x) K ⟨sl,bx,lv,nx⟩=an (aI ⟨sl,bx,lv,nx⟩ x) fun a=>an (zW k a) fun v=>K (.dat v none) ⟨sl,bx,lv,nx⟩:=rfl
theorem Q2 (id:Nat) (k:IntKind) (x:bW):bS C id (.ED k x) K ⟨sl,bx,lv,nx⟩=an (aI ⟨sl,bx,lv,nx⟩ x) fun a=>an (yF k a) fun v=>K (.dat v none) ⟨sl,bx,lv,nx⟩:=rfl
theorem Q3 (id:Nat) (x:bW):bS C id (.Jd x) K ⟨sl,bx,lv,nx⟩=an (aI ⟨sl,bx,lv,nx⟩ x) fun a=>an (zn a) fun v=>K (.dat v none) ⟨sl,bx,lv,nx⟩:=rfl
theorem WO (id:Nat) (e:Xt) (x:bW):bS C id (.xt e x) K ⟨sl,bx,lv,nx⟩=an (aI ⟨sl,bx,lv,nx⟩ x) fun a=>an (Tc e a) fun v=>K (.dat v none) ⟨sl,bx,lv,nx⟩:=rfl
theorem WQ (b:Nat):Tc .EC (.float .f64 b)=some (.int .u64 b):=rfl
theorem WR (n:Int):Tc .ffrom (.int .u64 n)=some (.float .f64 n.toNat):=rfl
theorem WS (b:Nat):Tc .rte (.float .f64 b)=Dn b:=rfl
def Q4 (n z:Nat) (s:S) (k:SV→S→Prop):SV→Prop
 | .rp cs=>n * z≤cs.length∧k (.dat (.sl (cU z n cs)) none) s
 | .ptr b off=>4≤b∧an (cY b s.boxes) fun bx=>n * z≤(bx.cells.drop off).length∧k (.dat (.sl (cU z n (bx.cells.drop off))) none) (gV [b] [bx.cells] s)
 | _=>False
theorem Ua (id:Nat) (x:bW) (n z:Nat):bS C id (.PU x n z) K ⟨sl,bx,lv,nx⟩=an (cZ ⟨sl,bx,lv,nx⟩ x) (Q4 n z ⟨sl,bx,lv,nx⟩ K):=by
 show an _ _=an _ _
 cases cZ ⟨sl,bx,lv,nx⟩ x with
 | none=>rfl
 | some v=>cases v<;>rfl
theorem Q5 (n z:Nat) (s:S) (k:SV→S→Prop) (cs:List AV):Q4 n z s k (.rp cs)=(n * z≤cs.length∧k (.dat (.sl (cU z n cs)) none) s):=rfl
theorem Q6 (n z:Nat) (k:SV→S→Prop) (b off:Nat):Q4 n z ⟨sl,bx,lv,nx⟩ k (.ptr b off)=(4≤b∧an (cY b bx) fun y=>n * z≤(y.cells.drop off).length∧k (.dat (.sl (cU z n (y.cells.drop off))) none) (gV [b] [y.cells] ⟨sl,bx,lv,nx⟩)):=rfl
def Ub (s:S) (i:bW) (k:AV→Prop):AV→Prop
 | .str b=>an (aI s i) fun a=>an (idxOf a) fun j=>an (HT b j) k
 | _=>False
theorem Uc (id:Nat) (x i:bW):bS C id (.Tz x i) K ⟨sl,bx,lv,nx⟩=an (aI ⟨sl,bx,lv,nx⟩ x) (Ub ⟨sl,bx,lv,nx⟩ i fun v=>K (.dat v none) ⟨sl,bx,lv,nx⟩):=by
 show an _ _=an _ _
 cases aI ⟨sl,bx,lv,nx⟩ x with
 | none=>rfl
 | some v=>cases v<;>rfl
theorem Q7 (s:S) (i:bW) (k:AV→Prop) (b:ByteArray):Ub s i k (.str b)=an (aI s i) fun a=>an (idxOf a) fun j=>an (HT b j) k:=rfl
theorem Q8 (id n:Nat):bS C id (.KC n) K ⟨sl,bx,lv,nx⟩=K (.dat (.int .i64 n) none) ⟨sl,bx,lv,nx⟩:=rfl
theorem Q9 (id f:Nat) (args:List bW):bS C id (.call f args) K ⟨sl,bx,lv,nx⟩=an (dP ⟨sl,bx,lv,nx⟩ args) fun as=>AD C f as id lv fun v l=>K v ⟨sl,bx,l,nx⟩:=rfl
def DE (C:aZ) (id:Nat) (lv:List (Nat × Nat)) (as:List AV) (k:SV→List (Nat × Nat)→Prop):AV→Prop
 | .fn (.func f) first caps=>AD C f (first++as++caps) id lv k
 | _=>False
@[congr] theorem Ud (id:Nat) (lv:List (Nat × Nat)) (as:List AV) (k:SV→List (Nat × Nat)→Prop) {v v':AV} (h:v=v'):DE C id lv as k v=DE C id lv as k v':=by rw [h]
def E3:Option SV→Option (List (Option AV) × List Nat)→Option (List (Option AV) × List Nat)
 | some (.dat a _),some p=>some (some a :: p.1,p.2)
 | some (.rp cs),some p=>some (some (.ref cs) :: p.1,p.2)
 | some (.ptr b 0),some p=>some (none :: p.1,b :: p.2)
 | _,_=>none
theorem K9 (a:AV) (q:Option Nat) (p:List (Option AV) × List Nat):E3 (some (.dat a q)) (some p)=some (some a :: p.1,p.2):=rfl
theorem La (cs:List AV) (p:List (Option AV) × List Nat):E3 (some (.rp cs)) (some p)=some (some (.ref cs) :: p.1,p.2):=rfl
theorem Lb (b:Nat) (p:List (Option AV) × List Nat):E3 (some (.ptr b 0)) (some p)=some (none :: p.1,b :: p.2):=rfl
theorem Ra:fQ ⟨sl,bx,lv,nx⟩ []=some ([],[]):=rfl
theorem Ue (x:bW) (r:List bW):fQ ⟨sl,bx,lv,nx⟩ (x :: r)=E3 (cZ ⟨sl,bx,lv,nx⟩ x) (fQ ⟨sl,bx,lv,nx⟩ r):=by
 show (match cZ ⟨sl,bx,lv,nx⟩ x,fQ ⟨sl,bx,lv,nx⟩ r with
  | some (.dat a _),some (as,bs)=>some (some a :: as,bs)
  | some (.rp cs),some (as,bs)=>some (some (.ref cs) :: as,bs)
  | some (.ptr b 0),some (as,bs)=>some (none :: as,b :: bs)
  | _,_=>none)=_
 unfold E3
 cases cZ ⟨sl,bx,lv,nx⟩ x with
 | none=>rfl
 | some v =>
  cases fQ ⟨sl,bx,lv,nx⟩ r with
  | none=>cases v with
   | ptr b o=>cases o<;>rfl
   | _=>rfl
  | some p=>cases v with
   | ptr b o=>cases o<;>rfl
   | _=>rfl
theorem Lc:bN bx []=some []:=rfl
def P2:Option dU→Option (List (List AV))→Option (List (List AV))
 | some x,some css=>some (x.cells :: css)
 | _,_=>none
theorem NY (x:dU) (css:List (List AV)):P2 (some x) (some css)=some (x.cells :: css):=rfl
theorem NZ (b:Nat) (bs:List Nat):bN bx (b :: bs)=P2 (cY b bx) (bN bx bs):=rfl
theorem Ld:fe []=true:=rfl
theorem N0 (b:Nat) (bs:List Nat):fe (b :: bs)=(!bs.contains b && fe bs):=rfl
theorem N1 (b:Nat) (bs:List Nat) (cs:List AV) (css:List (List AV)):gU (b :: bs) (cs :: css) bx=gU bs css (rO b ⟨cs,[]⟩ bx):=rfl
theorem Jv:dX bx []=some []:=rfl
theorem Lf (b:Nat) (bs:List Nat):dX bx (b :: bs)=Im (cY b bx) (dX bx bs):=rfl
theorem Jw (cs:List AV) (css:List (List AV)):Im (some ⟨cs,[]⟩) (some css)=some (cs :: css):=rfl
theorem Lh (css:List (List AV)):gU [] css bx=bx:=rfl
def DG (C:aZ) (f id:Nat) (bx:List (Nat × dU)) (lv:List (Nat × Nat)) (k:SV→List (Nat × dU)→List (Nat × Nat)→Prop) (p:List (Option AV) × List Nat):Prop :=
 fe p.2=true∧an (bN bx p.2) fun css=>DC C f css p.1 p.2 id bx lv k
theorem Li (f id:Nat) (as:List (Option AV)) (ids:List Nat) (k:SV→List (Nat × dU)→List (Nat × Nat)→Prop):DG C f id bx lv k (as,ids)=(fe ids=true∧an (bN bx ids) fun css=>DC C f css as ids id bx lv k):=rfl
theorem N2 (id f:Nat) (args:List bW):bS C id (.bT f args) K ⟨sl,bx,lv,nx⟩=an (fQ ⟨sl,bx,lv,nx⟩ args) (DG C f id bx lv fun v b l=>K v ⟨sl,b,l,nx⟩):=rfl
theorem N3 (id:Nat) (g:bW) (args:List bW):bS C id (.rD g args) K ⟨sl,bx,lv,nx⟩=an (aI ⟨sl,bx,lv,nx⟩ g) fun a=>an (dP ⟨sl,bx,lv,nx⟩ args) fun as=>DE C id lv as (fun v l=>K v ⟨sl,bx,l,nx⟩) a:=by
 show an _ _=an _ _
 cases hx:aI ⟨sl,bx,lv,nx⟩ g with
 | none=>rfl
 | some a =>
  show (match a with | .fn (.func f) first caps=>_ | _=>False)=_
  cases hy:dP ⟨sl,bx,lv,nx⟩ args with
  | none=>cases a<;>first | rfl | (rename_i f _ _; cases f<;>rfl)
  | some as=>cases a<;>first | rfl | (rename_i f _ _; cases f<;>rfl)
theorem Lj (id f:Nat) (as first caps:List AV) (k:SV→List (Nat × Nat)→Prop):DE C id lv as k (.fn (.func f) first caps)=AD C f (first++as++caps) id lv k:=rfl
def zB (C:aZ) (id:Nat) (bx:List (Nat × dU)) (lv:List (Nat × Nat)) (p:List (Option AV) × List Nat) (k:SV→List (Nat × dU)→List (Nat × Nat)→Prop):AV→Prop
 | .fn (.func f) [] []=>DG C f id bx lv k p
 | _=>False
@[congr] theorem Th (id:Nat) (bx:List (Nat × dU)) (lv:List (Nat × Nat)) {p p':List (Option AV) × List Nat} (k:SV→List (Nat × dU)→List (Nat × Nat)→Prop) {v v':AV} (h1:p=p') (h:v=v'):zB C id bx lv p k v=zB C id bx lv p' k v':=by rw [h,h1]
theorem Lk (id:Nat) (g:bW) (args:List bW):bS C id (.gT g args) K ⟨sl,bx,lv,nx⟩=an (aI ⟨sl,bx,lv,nx⟩ g) fun a=>an (fQ ⟨sl,bx,lv,nx⟩ args) fun p=>zB C id bx lv p (fun v b l=>K v ⟨sl,b,l,nx⟩) a:=by
 show an _ _=an _ _
 cases hx:aI ⟨sl,bx,lv,nx⟩ g with
 | none=>rfl
 | some a =>
  show (match a with | .fn (.func f) [] []=>_ | _=>False)=_
  cases hy:fQ ⟨sl,bx,lv,nx⟩ args with
  | none=>cases a<;>first | rfl | (rename_i f x y; cases f<;>first | rfl | (cases x<;>first | rfl | (cases y<;>rfl)))
  | some as=>cases a<;>first | rfl | (rename_i f x y; cases f<;>first | rfl | (cases x<;>first | rfl | (cases y<;>rfl)))
def DH (C:aZ) (f:Nat) (bx:List (Nat × dU)) (k:SV→Prop) (p:List (Option AV) × List Nat):Prop :=
 fe p.2=true∧an (dX bx p.2) fun css=>DD C f css p.1 k
theorem N4 (id f:Nat) (args:List bW):bS C id (.zU f args) K ⟨sl,bx,lv,nx⟩=an (fQ ⟨sl,bx,lv,nx⟩ args) (DH C f bx fun v=>K v ⟨sl,bx,lv,nx⟩):=rfl
theorem Ll (f:Nat) (as:List (Option AV)) (ids:List Nat) (k:SV→Prop):DH C f bx k (as,ids)=(fe ids=true∧an (dX bx ids) fun css=>DD C f css as k):=rfl
def zC (C:aZ) (bx:List (Nat × dU)) (p:List (Option AV) × List Nat) (k:SV→Prop):AV→Prop
 | .fn (.func f) [] []=>DH C f bx k p
 | _=>False
@[congr] theorem Ti (bx:List (Nat × dU)) {p p':List (Option AV) × List Nat} (k:SV→Prop) {v v':AV} (h1:p=p') (h:v=v'):zC C bx p k v=zC C bx p' k v':=by rw [h,h1]
theorem Lm (id:Nat) (g:bW) (args:List bW):bS C id (.rU g args) K ⟨sl,bx,lv,nx⟩=an (aI ⟨sl,bx,lv,nx⟩ g) fun a=>an (fQ ⟨sl,bx,lv,nx⟩ args) fun p=>zC C bx p (fun v=>K v ⟨sl,bx,lv,nx⟩) a:=by
 show an _ _=an _ _
 cases hx:aI ⟨sl,bx,lv,nx⟩ g with
 | none=>rfl
 | some a =>
  show (match a with | .fn (.func f) [] []=>_ | _=>False)=_
  cases hy:fQ ⟨sl,bx,lv,nx⟩ args with
  | none=>cases a<;>first | rfl | (rename_i f x y; cases f<;>first | rfl | (cases x<;>first | rfl | (cases y<;>rfl)))
  | some as=>cases a<;>first | rfl | (rename_i f x y; cases f<;>first | rfl | (cases x<;>first | rfl | (cases y<;>rfl)))
theorem Jy (f:Nat) (p:List (Option AV) × List Nat) (k:SV→Prop):zC C bx p k (.fn (.func f) [] [])=DH C f bx k p:=rfl
theorem Jz (id f:Nat) (p:List (Option AV) × List Nat) (k:SV→List (Nat × dU)→List (Nat × Nat)→Prop):zB C id bx lv p k (.fn (.func f) [] [])=DG C f id bx lv k p:=rfl
theorem Uf (id:Nat) (neg:Bool) (x:bW):bS C id (.Qo neg x) K ⟨sl,bx,lv,nx⟩=an (aI ⟨sl,bx,lv,nx⟩ x) fun a=>an (EE neg a) fun v=>K (.dat (.bool v) none) ⟨sl,bx,lv,nx⟩:=rfl
theorem Ug (id:Nat) (x:bW) (i:Nat):bS C id (.ext x i) K ⟨sl,bx,lv,nx⟩=an (aI ⟨sl,bx,lv,nx⟩ x) fun a=>an (KD a i) fun v=>K (.dat v none) ⟨sl,bx,lv,nx⟩:=rfl
theorem Rb (b:Nat) (cs:List AV) (b' o:Nat):rY b cs (.ptr b' o)=bif b' == b then .rp (cs.drop o) else .ptr b' o:=rfl
theorem Rc (b:Nat) (cs:List AV) (a:AV) (q:Option Nat):rY b cs (.dat a q)=.dat a q:=rfl
theorem Re (b:Nat) (cs cs':List AV):rY b cs (.rp cs')=.rp cs':=rfl
theorem Rf (b:Nat) (cs:List AV):rY b cs .undef=.undef:=rfl
theorem N5 (b:Nat) (cs:List AV):zZ b cs []=[]:=rfl
theorem Rh (b:Nat) (cs:List AV) (t:Nat) (v:SV) (r:List (Nat × SV)):zZ b cs ((t,v) :: r)=(t,rY b cs v) :: zZ b cs r:=rfl
theorem N6 (n:Nat):uv n []=[]:=rfl
theorem Ri (n m:Nat) (v:dU) (r:List (Nat × dU)):uv n ((m,v) :: r)=bif n == m then uv n r else (m,v) :: uv n r:=rfl
theorem N7 (css:List (List AV)) (s:S):gV [] css s=s:=rfl
theorem Rj (b:Nat) (bs:List Nat) (cs:List AV) (css:List (List AV)):gV (b :: bs) (cs :: css) ⟨sl,bx,lv,nx⟩=gV bs css ⟨zZ b cs sl,uv b bx,lv,nx⟩:=rfl
theorem Lo (css:List (List AV)):jC [] css=[]:=by cases css<;>rfl
theorem Lp (a:AV) (as:List (Option AV)) (css:List (List AV)):jC (some a :: as) css=a :: jC as css:=by cases css<;>rfl
theorem Lq (as:List (Option AV)) (cs:List AV) (css:List (List AV)):jC (none :: as) (cs :: css)=.ref cs :: jC as css:=rfl
theorem Rk:ko []=true:=rfl
theorem Uh (b:Nat) (bs:List Nat):ko (b :: bs)=(decide (4≤b) && ko bs):=rfl
def Ui (fn:Fn) (as:List AV) (s:S) (k:SV→S→Prop) (p:List (Option AV) × List Nat):Prop :=
 (fe p.2 && ko p.2)=true∧an (bN s.boxes p.2) fun css=>k (.dat (.fn fn as (jC p.1 css)) none) (gV p.2 css s)
theorem Rm (fn:Fn) (as:List AV) (k:SV→S→Prop) (ps:List (Option AV)) (ids:List Nat):Ui fn as ⟨sl,bx,lv,nx⟩ k (ps,ids)=((fe ids && ko ids)=true∧an (bN bx ids) fun css=>k (.dat (.fn fn as (jC ps css)) none) (gV ids css ⟨sl,bx,lv,nx⟩)):=rfl
theorem Uj (id:Nat) (fn:Fn) (a b:List bW):bS C id (.rT fn a b) K ⟨sl,bx,lv,nx⟩=an (dP ⟨sl,bx,lv,nx⟩ a) fun as=>an (fQ ⟨sl,bx,lv,nx⟩ b) (Ui fn as ⟨sl,bx,lv,nx⟩ K):=rfl
def Uk (mx:Bool) (k:AV→Prop):List AV→Prop
 | []=>False
 | a :: r=>an (r.foldlM (PV mx) a) k
theorem WT (id:Nat) (mx:Bool) (args:List bW):bS C id (.mm mx args) K ⟨sl,bx,lv,nx⟩=an (dP ⟨sl,bx,lv,nx⟩ args) (Uk mx fun v=>K (.dat v none) ⟨sl,bx,lv,nx⟩):=by
 show an _ _=an _ _
 cases dP ⟨sl,bx,lv,nx⟩ args with
 | none=>rfl
 | some l=>cases l<;>rfl
theorem Ul (mx:Bool) (k:AV→Prop) (a b:AV):Uk mx k [a,b]=an (PV mx a b) k:=by simp [Uk]
theorem Um (kd:IntKind) (x y:Int):PV true (.int kd x) (.int kd y)=some (.int kd (if y > x then y else x)):=rfl
theorem Rp (kd:IntKind) (x y:Int):PV false (.int kd x) (.int kd y)=some (.int kd (if y < x then y else x)):=rfl
theorem N8 (id:Nat) (zs:List AV) (parts:List (Nat × Nat × bW)):bS C id (.build zs parts) K ⟨sl,bx,lv,nx⟩=an (iS ⟨sl,bx,lv,nx⟩ parts) fun ps=>K (.dat (.agg (bE zs ps)) none) ⟨sl,bx,lv,nx⟩:=rfl
def uD (off sz:Nat):Option AV→Option (List (Nat × List AV))→Option (List (Nat × List AV))
 | some a,some ps=>if a.cells.length=sz∧jh a none=true then some ((off,a.cells) :: ps) else none
 | _,_=>none
theorem Lr (off sz:Nat) (x:bW) (r:List (Nat × Nat × bW)):iS ⟨sl,bx,lv,nx⟩ ((off,sz,x) :: r)=uD off sz (aI ⟨sl,bx,lv,nx⟩ x) (iS ⟨sl,bx,lv,nx⟩ r):=rfl
theorem JA:iS ⟨sl,bx,lv,nx⟩ []=some []:=rfl
theorem aS (off sz:Nat) (a:AV) (ps:List (Nat × List AV)) (h:a.cells.length=sz) (h':jh a none=true):uD off sz (some a) (some ps)=some ((off,a.cells) :: ps):=by simp [uD,h,h']
theorem Un (id e z:Nat) (xs:List bW):bS C id (.pL e z xs) K ⟨sl,bx,lv,nx⟩=an (mC ⟨sl,bx,lv,nx⟩ z xs) fun rows=>K (.dat (.sl rows) (some id)) ⟨sl,bx,(id,e) :: lv,nx⟩:=rfl
def Rq (z:Nat):Option AV→Option (List (List AV))→Option (List (List AV))
 | some a,some rows=>if a.cells.length=z∧jh a none=true then some (a.cells :: rows) else none
 | _,_=>none
theorem N9 (z:Nat) (x:bW) (r:List bW):mC ⟨sl,bx,lv,nx⟩ z (x :: r)=Rq z (aI ⟨sl,bx,lv,nx⟩ x) (mC ⟨sl,bx,lv,nx⟩ z r):=rfl
theorem Ls (z:Nat):mC ⟨sl,bx,lv,nx⟩ z []=some []:=rfl
theorem bn (z:Nat) (a:AV) (rows:List (List AV)) (h:a.cells.length=z) (h':jh a none=true):Rq z (some a) (some rows)=some (a.cells :: rows):=by simp [Rq,h,h']
theorem Uo (id e z bytes:Nat) (x y:bW):bS C id (.app e z bytes x y) K ⟨sl,bx,lv,nx⟩=an (cZ ⟨sl,bx,lv,nx⟩ x) fun
   | .dat a q=>an (rowsOf a) fun xs=>an (aI ⟨sl,bx,lv,nx⟩ y) fun b=>an (rowsOf b) fun ys =>
     (xs.length + ys.length) * bytes≤140737488355328∧(∀ r∈xs,r.length=z)∧(∀ r∈ys,r.length=z) ∧
     (match a,q with
      | .bl,_=>if ys=[] then K (.dat .bl none) ⟨sl,bx,lv,nx⟩ else K (.dat (.sl (xs++ys)) (some id)) ⟨sl,bx,(id,e) :: lv,nx⟩
      | .sl _,some q=>eA q lv=some e∧K (.dat (.sl (xs++ys)) (some id)) ⟨sl,bx,(id,e) :: rP q lv,nx⟩
      | _,_=>False)
   | _=>False:=rfl
theorem Up (id z:Nat) (x:bW) (lo hi:Option bW):bS C id (.Qn z x lo hi) K ⟨sl,bx,lv,nx⟩=an (aI ⟨sl,bx,lv,nx⟩ x) fun a=>an (rowsOf a) fun xs=>an (zX ⟨sl,bx,lv,nx⟩ lo) fun l=>an (zY ⟨sl,bx,lv,nx⟩ xs hi) fun h=>(0≤l∧l≤h∧h≤xs.length)∧(∀ r∈xs,r.length=z)∧K (.dat (KE a xs l h) none) ⟨sl,bx,lv,nx⟩:=rfl
theorem Oa:zX ⟨sl,bx,lv,nx⟩ none=some 0:=rfl
theorem Rr (x:bW):zX ⟨sl,bx,lv,nx⟩ (some x)=xE (aI ⟨sl,bx,lv,nx⟩ x):=by cases h:aI ⟨sl,bx,lv,nx⟩ x<;>simp [zX,xE,h]
theorem Ob (xs:List (List AV)):zY ⟨sl,bx,lv,nx⟩ xs none=some (xs.length:Int):=rfl
theorem Rs (xs:List (List AV)) (x:bW):zY ⟨sl,bx,lv,nx⟩ xs (some x)=xE (aI ⟨sl,bx,lv,nx⟩ x):=by cases h:aI ⟨sl,bx,lv,nx⟩ x<;>simp [zY,xE,h]
theorem Rt (k:IntKind) (i:Int):xE (some (.int k i))=some i:=rfl
theorem Ur (xs ys:List (List AV)) (l h:Int):KE (.sl ys) xs l h=.sl ((xs.take h.toNat).drop l.toNat):=rfl
theorem Ru (xs:List (List AV)) (l h:Int):KE .bl xs l h=.bl:=rfl
def Tj (k:SV→Prop):SV→Prop
 | .ptr b o=>k (.ptr b o)
 | .rp cs=>k (.rp cs)
 | .dat (.fn (.func f) as bs) q=>k (.dat (.fn (.func f) as bs) q)
 | .dat (.ref cs) _=>k (.rp cs)
 | _=>False
theorem WU (id:Nat) (x:bW):bS C id (.nc x) K ⟨sl,bx,lv,nx⟩=an (cZ ⟨sl,bx,lv,nx⟩ x) (Tj fun v=>K v ⟨sl,bx,lv,nx⟩):=by
 show an _ _=an _ _
 cases cZ ⟨sl,bx,lv,nx⟩ x with
 | none=>rfl
 | some v=>cases v with
  | dat a q=>cases a<;>first | rfl | (rename_i f _ _; cases f<;>rfl)
  | _=>rfl
theorem Us (k:SV→Prop) (b o:Nat):Tj k (.ptr b o)=k (.ptr b o):=rfl
theorem Ut (k:SV→Prop) (cs:List AV) (q:Option Nat):Tj k (.dat (.ref cs) q)=k (.rp cs):=rfl
theorem Uu (k:SV→Prop) (cs:List AV):Tj k (.rp cs)=k (.rp cs):=rfl
theorem Rv:aw C .skip Q ⟨sl,bx,lv,nx⟩=Q .normal ⟨sl,bx,lv,nx⟩:=rfl
def Lt (k:S→Prop) (n:Nat):S→Prop:=fun s=>k { s with nx:=n }
theorem Uv (ops:List CO):aw C (.Nj ops) Q ⟨sl,bx,lv,nx⟩=jD C nx 0 ops (Lt (Q .normal) (nx + ops.length)) ⟨sl,bx,lv,nx⟩:=rfl
def Rw (ops:List CO) (dF:List (Nat × Nat)) (s:S) (F:List CO→S→Prop):Prop:=∃ ids,(fe ids && ko ids)=true∧an (bN s.boxes ids) fun css=>∃ ro,Cz (oa ro 0 ops) dF (gV ids css s).nx (gV ids css s).slots=true∧F (oa ro 0 ops) (gV ids css s)
class KF where
 k:List CO→S→Prop
def dg (ops:List CO) (dF:List (Nat × Nat)) (s:S) [k:KF]:Prop:=Rw ops dF s k.k
theorem WV (ops:List CO) (dF:List (Nat × Nat)) (s:S) (F:List CO→S→Prop):Rw ops dF s F=@dg ops dF s ⟨F⟩:=rfl
theorem mE {ops:List CO} {dF:List (Nat × Nat)} {s:S} {F:List CO→S→Prop} (h:Cz ops dF s.nx s.slots=true) (hk:F ops s):@dg ops dF s ⟨F⟩:=⟨[],rfl,[],by rw [vI]; exact h,by rw [vI]; exact hk⟩
theorem jy {ops:List CO} {dF:List (Nat × Nat)} {s:S} {F:List CO→S→Prop} (ro:List Nat) (h:Cz (oa ro 0 ops) dF s.nx s.slots=true) (hk:F (oa ro 0 ops) s):@dg ops dF s ⟨F⟩:=⟨[],rfl,ro,h,hk⟩
theorem G9 {ops:List CO} {dF:List (Nat × Nat)} {s:S} {F:List CO→S→Prop} (ids ro:List Nat) {css:List (List AV)} (hn:(fe ids && ko ids)=true) (hc:bN s.boxes ids=some css) (h:Cz (oa ro 0 ops) dF (gV ids css s).nx (gV ids css s).slots=true) (hk:F (oa ro 0 ops) (gV ids css s)):@dg ops dF s ⟨F⟩:=⟨ids,hn,by rw [hc]; exact ⟨ro,h,hk⟩⟩
def WW (C:aZ) (nx:Nat) (K:S→Prop) (ops:List CO) (s:S):Prop:=jD C nx 0 ops K s
theorem Uw (nx:Nat) (K:S→Prop) (o:CO) (ops:List CO):WW C nx K (o :: ops) ⟨sl,bx,lv,nx⟩=jD C nx 0 (o :: ops) K ⟨sl,bx,lv,nx⟩:=rfl
theorem Rx (ops:List CO) (dF:List (Nat × Nat)):aw C (.lF ops dF) Q ⟨sl,bx,lv,nx⟩=Rw ops dF ⟨sl,bx,lv,nx⟩ (WW C nx (Lt (Q .normal) (nx + ops.length))):=by
 show (∃ ids,_∧an _ _)=(∃ ids,_∧an _ _)
 congr 1; funext ids; congr 2; funext css
 show Qr _ _ _ _ _=_
 unfold Qr WW
 simp only [Dp]
 rfl
theorem Ry (k:S→Prop) (n:Nat):Lt k n ⟨sl,bx,lv,nx⟩=k ⟨sl,bx,lv,n⟩:=rfl
theorem Ux (a b:br):aw C (.seq a b) Q ⟨sl,bx,lv,nx⟩=aw C a (k6 (aw C b Q) Q) ⟨sl,bx,lv,nx⟩:=rfl
theorem Lu (a b:br):aw C (.join a b) Q ⟨sl,bx,lv,nx⟩=aw C a (k6 (down (aw C b Q)) Q) ⟨sl,bx,lv,nx⟩:=rfl
def uE (a b:Prop):AV→Prop
 | .bool t=>(t=true→a)∧(t=false→b)
 | _=>False
theorem Rz (c:bW) (a b:br):aw C (.cond c a b) Q ⟨sl,bx,lv,nx⟩=an (aI ⟨sl,bx,lv,nx⟩ c) (uE (aw C a Q ⟨sl,bx,lv,nx⟩) (aw C b Q ⟨sl,bx,lv,nx⟩)):=rfl
def Uy (n z:Nat) (a:Option AV) (k:SV→Prop):SV→Prop
 | .ptr b off=>an a fun a=>an (idxOf a) fun h=>(0≤h∧h≤n)∧k (.vs b off h.toNat z)
 | _=>False
theorem Uz (id:Nat) (x:bW) (n z:Nat) (hi:bW):bS C id (.S9 x n z hi) K ⟨sl,bx,lv,nx⟩=an (cZ ⟨sl,bx,lv,nx⟩ x) (Uy n z (aI ⟨sl,bx,lv,nx⟩ hi) fun v=>K v ⟨sl,bx,lv,nx⟩):=by
 show an _ _=an _ _
 cases cZ ⟨sl,bx,lv,nx⟩ x with
 | none=>rfl
 | some v=>cases v<;>rfl
theorem RA (n z:Nat) (a:Option AV) (k:SV→Prop) (b off:Nat):Uy n z a k (.ptr b off)=an a fun a=>an (idxOf a) fun h=>(0≤h∧h≤n)∧k (.vs b off h.toNat z):=rfl
def Io (a b:Prop):AV→Prop
 | .bool t=>(t=true→a)∧(t=false→b)
 | _=>False
def Lv (id e z bytes:Nat) (s:S) (K:SV→S→Prop) (b off n z':Nat):SV→Prop
 | .ptr b' _=>(b'=b∧z'=z)∧an (cY b s.boxes) fun y=>(n * z≤(y.cells.drop off).length∧n * bytes≤140737488355328) ∧
   Io (K (.dat .bl none) s) (K (.dat (.sl (cU z n (y.cells.drop off))) (some id)) { s with live:=(id,e) :: s.live }) (.bool (n == 0))
 | _=>False
def P3 (id e z bytes:Nat) (s:S) (K:SV→S→Prop) (x:Option SV):SV→Prop
 | .vs b off n z'=>an x (Lv id e z bytes s K b off n z')
 | _=>False
theorem Lw (a b:Prop) (n:Nat):Io a b (.bool (n == 0))=(if n=0 then a else b):=by
 by_cases h:n=0
 ·subst h; simp [Io]
 ·simp [Io,h]
theorem RB (id e z bytes:Nat) (y x:bW):bS C id (.Cg e z bytes y x) K ⟨sl,bx,lv,nx⟩=an (cZ ⟨sl,bx,lv,nx⟩ y) (P3 id e z bytes ⟨sl,bx,lv,nx⟩ K (cZ ⟨sl,bx,lv,nx⟩ x)):=by
 show an _ _=an _ _
 cases cZ ⟨sl,bx,lv,nx⟩ y with
 | none=>rfl
 | some v =>
  cases v<;>try rfl
  show an _ _=an _ _
  cases cZ ⟨sl,bx,lv,nx⟩ x with
  | none=>rfl
  | some u =>
   cases u<;>try rfl
   show (_∧an _ _)=(_∧an _ _)
   congr 2
   funext y
   rw [Lw]
theorem Oc (id e z bytes:Nat) (K:SV→S→Prop) (x:Option SV) (b off n z':Nat):P3 id e z bytes ⟨sl,bx,lv,nx⟩ K x (.vs b off n z')=an x (Lv id e z bytes ⟨sl,bx,lv,nx⟩ K b off n z'):=rfl
theorem Od (id e z bytes:Nat) (K:SV→S→Prop) (b off n z' b' o:Nat):Lv id e z bytes ⟨sl,bx,lv,nx⟩ K b off n z' (.ptr b' o)=((b'=b∧z'=z)∧an (cY b bx) fun y=>(n * z≤(y.cells.drop off).length∧n * bytes≤140737488355328) ∧
   uE (K (.dat .bl none) ⟨sl,bx,lv,nx⟩) (K (.dat (.sl (cU z n (y.cells.drop off))) (some id)) ⟨sl,bx,(id,e) :: lv,nx⟩) (.bool (n == 0))):=rfl
def cd (c:AV) [k:KP]:Prop:=uE k.yes k.no c
theorem dD (a b:Prop) (c:AV):uE a b c=@cd c ⟨a,b⟩:=rfl
theorem Oe (a b:Prop):@cd (.bool true) ⟨a,b⟩=a:=by simp [cd,uE]
theorem Of (a b:Prop):@cd (.bool false) ⟨a,b⟩=b:=by simp [cd,uE]
theorem Og (id:Nat) (c:br):aw C (.block id c) Q ⟨sl,bx,lv,nx⟩=aw C c (gz id Q) ⟨sl,bx,lv,nx⟩:=rfl
theorem RC (id:Nat):aw C (.exit id) Q ⟨sl,bx,lv,nx⟩=Q (.exit id) ⟨sl,bx,lv,nx⟩:=rfl
theorem UA:aw C .ret Q ⟨sl,bx,lv,nx⟩=Q .ret ⟨sl,bx,lv,nx⟩:=rfl
theorem Oh (l:Nat) (c r:br):aw C (.scope l c r) Q ⟨sl,bx,lv,nx⟩=aw C c (oH l (aw C r (z6 Q)) Q) ⟨sl,bx,lv,nx⟩:=rfl
theorem Oi (l:Nat):aw C (.label l) Q ⟨sl,bx,lv,nx⟩=Q .normal ⟨sl,bx,lv,nx⟩:=rfl
theorem RD (l:Nat):aw C (.goto l) Q ⟨sl,bx,lv,nx⟩=Q (.goto l) ⟨sl,bx,lv,nx⟩:=rfl
theorem Oj (k:S→Prop) (s:S) (l:Nat):k6 k Q (.goto l) s=Q (.goto l) s:=rfl
theorem RE (id:Nat) (s:S) (l:Nat):gz id Q (.goto l) s=Q (.goto l) s:=rfl
theorem UB (l:Nat) (k:S→Prop) (s:S):oH l k Q .normal s=Q .normal s:=rfl
theorem UC (l:Nat) (k:S→Prop) (s:S):oH l k Q .ret s=Q .ret s:=rfl
theorem UD (l:Nat) (k:S→Prop) (s:S) (id:Nat):oH l k Q (.exit id) s=Q (.exit id) s:=rfl
theorem UE (l:Nat) (k:S→Prop) (s:S) (l':Nat):oH l k Q (.goto l') s=(l'=l∧k s):=rfl
theorem UF (s:S):z6 Q .normal s=Q .normal s:=rfl
theorem UG (s:S):z6 Q .ret s=Q .ret s:=rfl
theorem UH (s:S) (id:Nat):z6 Q (.exit id) s=Q (.exit id) s:=rfl
theorem Ol (k:S→Prop) (s:S):k6 k Q .normal s=k s:=rfl
theorem Om (k:S→Prop) (s:S):k6 k Q .ret s=Q .ret s:=rfl
theorem Oo (k:S→Prop) (s:S) (id:Nat):k6 k Q (.exit id) s=Q (.exit id) s:=rfl
theorem RF (id:Nat) (s:S):gz id Q .normal s=Q .normal s:=rfl
theorem RG (id:Nat) (s:S):gz id Q .ret s=Q .ret s:=rfl
theorem RH (id:Nat) (s:S):gz id Q (.exit id) s=Q .normal s:=by simp [gz]
theorem bp (id id':Nat) (s:S) (h:(id' == id)=false):gz id Q (.exit id') s=Q (.exit id') s:=by
 have:id'≠id:=by simpa using h
 simp [gz,this]
end
section
variable {C:aZ} {Q:Exit→S→Prop} {K:SV→S→Prop} {J:S→Prop}
@[congr] theorem Wp {α:Type} {o o':Option α} (k:α→Prop) (h:o=o'):an o k=an o' k:=by rw [h]
@[congr] theorem XD (id:Nat) (o:bV) (s:S):bS C id o K s=bS C id o K s:=rfl
@[congr] theorem WX (b i:Nat) (l:List CO) (s:S):jD C b i l J s=jD C b i l J s:=rfl
@[congr] theorem X1 (c:br) (s:S):aw C c Q s=aw C c Q s:=rfl
@[congr] theorem Wq (e:Exit) (s:S):k6 J Q e s=k6 J Q e s:=rfl
@[congr] theorem UI {J:S→Prop} (l:Nat) (e:Exit) (s:S):oH l J Q e s=oH l J Q e s:=rfl
@[congr] theorem WY (e:Exit) (s:S):z6 Q e s=z6 Q e s:=rfl
@[congr] theorem UJ (id:Nat) (e:Exit) (s:S):gz id Q e s=gz id Q e s:=rfl
@[congr] theorem WZ (n:Nat) (s:S):Lt J n s=Lt J n s:=rfl
@[congr] theorem W0 {s s':S} (h:s=s'):down J s=down J s':=by rw [h]
@[congr] theorem UK (w:Bool) (yes no:Prop) {g g':Option SV} (h:g=g'):oK w yes no g=oK w yes no g':=by rw [h]
@[congr] theorem Wr {a a' b b':Option SV} (k:SV→Prop) {c c':AV} (ha:a=a') (hb:b=b') (hc:c=c'):AE a b k c=AE a' b' k c':=by rw [ha,hb,hc]
@[congr] theorem Ws (a b:Prop) {c c':AV} (h:c=c'):uE a b c=uE a b c':=by rw [h]
@[congr] theorem XE (sz:Option Nat) (bx:List (Nat × dU)) (k:SV→Prop) {v v':SV} (h:v=v'):Tg sz bx k v=Tg sz bx k v':=by rw [h]
@[congr] theorem XF (off:Nat) (k:SV→Prop) {v v':SV} (h:v=v'):TQ off k v=TQ off k v':=by rw [h]
@[congr] theorem XG {d d':Nat} (k:SV→Prop) {v v':SV} (h:v=v') (hd:d=d'):TT d k v=TT d' k v':=by rw [h,hd]
@[congr] theorem XH (sz:Nat) (bx:List (Nat × dU)) {u u':Option SV} (k:List (Nat × dU)→Prop) {v v':SV} (hu:u=u') (h:v=v'):Wo sz bx u k v=Wo sz bx u' k v':=by rw [h,hu]
@[congr] theorem XI (sz off:Nat) (x:dU) (k:dU→Prop) {v v':SV} (h:v=v'):TN sz off x k v=TN sz off x k v':=by rw [h]
@[congr] theorem W4 (k:List AV→Prop) {v v':AV} (h:v=v'):G8 k v=G8 k v':=by rw [h]
@[congr] theorem XJ (m:Bool) (k:AV→Prop) {v v':List AV} (h:v=v'):Uk m k v=Uk m k v':=by rw [h]
@[congr] theorem XK (k:SV→Prop) {v v':SV} (h:v=v'):Tj k v=Tj k v':=by rw [h]
end
section
variable (k:IntKind) (x y:Int)
theorem UM:dI .add (.int k x) (.int k y)=some (.int k (k.wrap (x + y))):=by simp [dI,rN]
theorem UN:dI .sub (.int k x) (.int k y)=some (.int k (k.wrap (x - y))):=by simp [dI,rN]
theorem UO:dI .mul (.int k x) (.int k y)=some (.int k (k.wrap (x * y))):=by simp [dI,rN]
theorem UP:dI .eql (.int k x) (.int k y)=some (.bool (x == y)):=by simp [dI,rN]
theorem UQ:dI .neq (.int k x) (.int k y)=some (.bool (x != y)):=by simp [dI,rN]
theorem UR:dI .lss (.int k x) (.int k y)=some (.bool (decide (x < y))):=by simp [dI,rN]
theorem US:dI .leq (.int k x) (.int k y)=some (.bool (decide (x≤y))):=by simp [dI,rN]
theorem UT:dI .gtr (.int k x) (.int k y)=some (.bool (decide (y < x))):=by simp [dI,rN]
theorem UU:dI .geq (.int k x) (.int k y)=some (.bool (decide (y≤x))):=by simp [dI,rN]
def cn (k:IntKind) (x y:Int):Int:=k.wrap (BitVec.ofInt k.bits x &&& BitVec.ofInt k.bits y).toNat
def zD (k:IntKind) (x y:Int):Int:=k.wrap (BitVec.ofInt k.bits x ||| BitVec.ofInt k.bits y).toNat
def JB (k:IntKind) (x y:Int):Int:=k.wrap (BitVec.ofInt k.bits x ^^^ BitVec.ofInt k.bits y).toNat
def cJ (k:IntKind) (x y:Int):Int:=k.wrap (BitVec.ofInt k.bits x &&& ~~~BitVec.ofInt k.bits y).toNat
theorem UW:dI .and (.int k x) (.int k y)=some (.int k (cn k x y)):=by simp [dI,rN,yE,cn]
theorem W5:dI .or (.int k x) (.int k y)=some (.int k (zD k x y)):=by simp [dI,rN,yE,zD]
theorem UX:dI .xor (.int k x) (.int k y)=some (.int k (JB k x y)):=by simp [dI,rN,yE,JB]
theorem Lx:dI .andNot (.int k x) (.int k y)=some (.int k (cJ k x y)):=by simp [dI,rN,yE,cJ]
def rF (c:Prop) [Decidable c] (v:AV):Option AV:=if c then some v else none
theorem Oq (c:Prop) [Decidable c] (v:AV) (K:AV→Prop):@wv _ (rF c v) ⟨K⟩=(c∧K v):=by
 rw [← dh]; unfold rF; split<;>simp_all
theorem UY:dI .quo (.int k x) (.int k y)=rF (y≠0) (.int k (k.wrap (x.tdiv y))):=by
 by_cases h:y=0<;>simp [dI,rN,rF,h]
theorem UZ:dI .rem (.int k x) (.int k y)=rF (y≠0) (.int k (x.tmod y)):=by
 by_cases h:y=0<;>simp [dI,rN,rF,h]
theorem U0 (k':IntKind):dI .shl (.int k x) (.int k' y)=rF (0≤y) (.int k (k.wrap (x * 2 ^ min y.toNat k.bits))):=by
 by_cases h:0≤y
 ·have:¬ y < 0:=by omega
  simp [dI,rW,rF,h,this]
 ·have:y < 0:=by omega
  simp [dI,rW,rF,this]
theorem U1 (k':IntKind):dI .shr (.int k x) (.int k' y)=rF (0≤y) (.int k (x.fdiv (2 ^ min y.toNat k.bits))):=by
 by_cases h:0≤y
 ·have:¬ y < 0:=by omega
  simp [dI,rW,rF,h,this]
 ·have:y < 0:=by omega
  simp [dI,rW,rF,this]
theorem U2 (x y:Bool):Ta false (.bool x) (.bool y)=some (.bool (x == y)):=rfl
theorem U3 (x y:Bool):Ta true (.bool x) (.bool y)=some (.bool (x != y)):=rfl
theorem U4 (b:Bool):Qp .not (.bool b)=some (.bool !b):=rfl
theorem U5:Qp .neg (.int k x)=some (.int k (k.wrap (0 - x))):=rfl
theorem U6:EE false .bl=some true:=rfl
theorem U7:EE true .bl=some false:=rfl
theorem U8 (xs:List (List AV)):EE false (.sl xs)=some false:=rfl
theorem U9 (xs:List (List AV)):EE true (.sl xs)=some true:=rfl
theorem Va:zn .bl=some (.int .i64 0):=rfl
theorem W6 (xs:List (List AV)):zn (.sl xs)=some (.int .i64 xs.length):=rfl
theorem W7 (k':IntKind):Cy k (.int k' x)=some (.int k (k.wrap x)):=rfl
theorem W8 (k':IntKind) (f:FloatKind):zW f (.int k' x)=some (.float f (f.nearest x)):=rfl
theorem Vb (vs:List AV) (i:Nat):KD (.cQ vs) i=vs[i]?:=rfl
theorem Vc (cs:List AV):jh (.agg cs) none=true:=rfl
theorem Vd (q:Option Nat):jh (.int k x) q=true:=rfl
theorem Ve (b:Bool) (q:Option Nat):jh (.bool b) q=true:=rfl
theorem Vf (f:FloatKind) (n:Nat) (q:Option Nat):jh (.float f n) q=true:=rfl
theorem Vg (q:Option Nat):jh .bl q=true:=rfl
theorem Vh (xs:List (List AV)) (q:Option Nat):jh (.sl xs) q=true:=rfl
theorem Vi (b:ByteArray) (q:Option Nat):jh (.str b) q=true:=rfl
theorem Vj (f:Fn) (as bs:List AV) (q:Option Nat):jh (.fn f as bs) q=true:=rfl
theorem RI (cs:List AV) (q:Option Nat):jh (.ref cs) q=true:=rfl
theorem Vk (q:Option Nat):jh .dZ q=true:=rfl
theorem JC (cs:List AV):AV.cells (.agg cs)=cs:=rfl
theorem JD:AV.cells (.int k x)=[.int k x]:=rfl
theorem He (b:Bool):AV.cells (.bool b)=[.bool b]:=rfl
theorem E4 (f:FloatKind) (n:Nat):AV.cells (.float f n)=[.float f n]:=rfl
theorem Hf:AV.cells .bl=[.bl]:=rfl
theorem JE (cs:List AV):AV.cells (.ref cs)=[.ref cs]:=rfl
theorem Ly (f:Fn) (as bs:List AV):AV.cells (.fn f as bs)=[.fn f as bs]:=rfl
theorem Lz (xs:List (List AV)):AV.cells (.sl xs)=[.sl xs]:=rfl
theorem xQ (cs:List AV) (off:Nat):aB cs off none=cs[off]?:=rfl
theorem bh (cs:List AV) (off n:Nat) (h:off + n≤cs.length):aB cs off (some n)=some (.agg ((cs.drop off).take n)):=by simp [aB,h]
end
theorem aR {w:Bool} {yes no:Prop} {t:Bool} {q:Option Nat} (h1:t=true→@gd w (some (.dat (.bool true) q)) ⟨yes,no⟩) (h2:t=false→@gd w (some (.dat (.bool false) q)) ⟨yes,no⟩):@gd w (some (.dat (.bool t) q)) ⟨yes,no⟩:=by
 cases t
 ·exact h2 rfl
 ·exact h1 rfl
theorem ay {a b:Prop} {t:Bool} (h1:t=true→a) (h2:t=false→b):@cd (.bool t) ⟨a,b⟩:=by
 cases t
 ·simpa [cd,uE] using h2 rfl
 ·simpa [cd,uE] using h1 rfl
theorem bk {a b:Option SV} {k:SV→Prop} {t:Bool} (h1:t=true→@pk a b (.bool true) ⟨k⟩) (h2:t=false→@pk a b (.bool false) ⟨k⟩):@pk a b (.bool t) ⟨k⟩:=by
 cases t
 ·exact h2 rfl
 ·exact h1 rfl
theorem Ot (p:Nat) (ps:List Nat) (x:AV) (xs:List AV) (s:S):pM (p :: ps) (x :: xs) s=pM ps xs (s.put (some p) (.dat x none)):=rfl
theorem LA (s:S):pM [] [] s=s:=rfl
theorem RJ (wr:List Nat) (sl:List (Nat × SV)) (bx:List (Nat × dU)) (lv:List (Nat × Nat)) (nx:Nat):z5 wr ⟨sl,bx,lv,nx⟩=⟨Ck wr sl,bx,lv,nx⟩:=rfl
theorem Ou (wr:List Nat):Ck wr []=[]:=rfl
theorem RM (wr:List Nat) (t:Nat) (v:SV) (r:List (Nat × SV)):Ck wr ((t,v) :: r)=bif wr.contains t then Ck wr r else (t,v) :: Ck wr r:=rfl
theorem RO (wr:List Nat) (F:S→Prop) (Q:Exit→S→Prop) (s:S):GK wr F Q .normal s=down F (z5 wr s):=rfl
theorem RQ (wr:List Nat) (F:S→Prop) (Q:Exit→S→Prop) (s:S):GK wr F Q .ret s=Q .ret (z5 wr s):=rfl
theorem RR (wr:List Nat) (F:S→Prop) (Q:Exit→S→Prop) (id:Nat) (s:S):GK wr F Q (.exit id) s=Q (.exit id) (z5 wr s):=rfl
theorem Ov (K:S→Prop) (s:S):vJ K .normal s=K s:=rfl
def X2 :=
 And.intro @QJ (And.intro @QK (And.intro @QL (And.intro @TH (And.intro @WG (And.intro @TI (And.intro @TJ (And.intro @E2 (And.intro @yW (And.intro @vY (And.intro @sC (And.intro @QM (And.intro @QN (And.intro @NK (And.intro @TK (And.intro @QO (And.intro @QS (And.intro @QT (And.intro @NL (And.intro @QU (And.intro @NM (And.intro @NN (And.intro @NO (And.intro @NP (And.intro @K5 (And.intro @NQ (And.intro @QV (And.intro @NR (And.intro @K6 (@K7)))))))))))))))))))))))))))))
def X3 :=
 And.intro @Jt (And.intro @K8 (And.intro @Ju (And.intro @WH (And.intro @QW (And.intro @NS (And.intro @NT (And.intro @NU (And.intro @TL (And.intro @WJ (And.intro @QX (And.intro @QY (And.intro @TM (And.intro @WK (And.intro @TO (And.intro @TP (And.intro @NV (And.intro @NW (And.intro @WL (And.intro @TR (And.intro @TS (And.intro @TU (And.intro @TV (And.intro @TW (And.intro @TX (And.intro @TY (And.intro @QZ (And.intro @NX (And.intro @TZ (@T6)))))))))))))))))))))))))))))
def X4 :=
 And.intro @T7 (And.intro @T8 (And.intro @T9 (And.intro @WM (And.intro @WN (And.intro @Q0 (And.intro @Q1 (And.intro @Q2 (And.intro @Q3 (And.intro @WO (And.intro @WQ (And.intro @WR (And.intro @WS (And.intro @Ua (And.intro @Q5 (And.intro @Q6 (And.intro @Uc (And.intro @Q7 (And.intro @Q8 (And.intro @Q9 (And.intro @K9 (And.intro @La (And.intro @Lb (And.intro @Ra (And.intro @Ue (And.intro @Lc (And.intro @NY (And.intro @NZ (And.intro @Ld (@N0)))))))))))))))))))))))))))))
def X5 :=
 And.intro @N1 (And.intro @Jv (And.intro @Lf (And.intro @Jw (And.intro @Lh (And.intro @Li (And.intro @N2 (And.intro @N3 (And.intro @Lj (And.intro @Lk (And.intro @N4 (And.intro @Ll (And.intro @Lm (And.intro @Jy (And.intro @Jz (And.intro @Uf (And.intro @Ug (And.intro @Rb (And.intro @Rc (And.intro @Re (And.intro @Rf (And.intro @N5 (And.intro @Rh (And.intro @N6 (And.intro @Ri (And.intro @N7 (And.intro @Rj (And.intro @Lo (And.intro @Lp (@Lq)))))))))))))))))))))))))))))
def X6 :=
 And.intro @Rk (And.intro @Uh (And.intro @Rm (And.intro @Uj (And.intro @WT (And.intro @Ul (And.intro @Um (And.intro @Rp (And.intro @N8 (And.intro @Lr (And.intro @JA (And.intro @Un (And.intro @N9 (And.intro @Ls (And.intro @Uo (And.intro @Up (And.intro @Oa (And.intro @Rr (And.intro @Ob (And.intro @Rs (And.intro @Rt (And.intro @Ur (And.intro @Ru (And.intro @WU (And.intro @Us (And.intro @Ut (And.intro @Uu (And.intro @Rv (And.intro @Uv (@Uw)))))))))))))))))))))))))))))
def X7 :=
 And.intro @Rx (And.intro @Ry (And.intro @Ux (And.intro @Lu (And.intro @Rz (And.intro @Uz (And.intro @RA (And.intro @RB (And.intro @Oc (And.intro @Od (And.intro @Oe (And.intro @Of (And.intro @Og (And.intro @RC (And.intro @UA (And.intro @Oh (And.intro @Oi (And.intro @RD (And.intro @Oj (And.intro @RE (And.intro @UB (And.intro @UC (And.intro @UD (And.intro @UE (And.intro @UF (And.intro @UG (And.intro @UH (And.intro @Ol (And.intro @Om (@Oo)))))))))))))))))))))))))))))
def X8 :=
 And.intro @RF (And.intro @RG (And.intro @RH (And.intro @UM (And.intro @UN (And.intro @UO (And.intro @UP (And.intro @UQ (And.intro @UR (And.intro @US (And.intro @UT (And.intro @UU (And.intro @UW (And.intro @W5 (And.intro @UX (And.intro @Lx (And.intro @Oq (And.intro @UY (And.intro @UZ (And.intro @U0 (And.intro @U1 (And.intro @U2 (And.intro @U3 (And.intro @U4 (And.intro @U5 (And.intro @U6 (And.intro @U7 (And.intro @U8 (And.intro @U9 (@Va)))))))))))))))))))))))))))))
def X9 :=
 And.intro @W6 (And.intro @W7 (And.intro @W8 (And.intro @Vb (And.intro @Vc (And.intro @Vd (And.intro @Ve (And.intro @Vf (And.intro @Vg (And.intro @Vh (And.intro @Vi (And.intro @Vj (And.intro @RI (And.intro @Vk (And.intro @JC (And.intro @JD (And.intro @He (And.intro @E4 (And.intro @Hf (And.intro @JE (And.intro @Ly (And.intro @Lz (And.intro @xQ (And.intro @Ot (And.intro @LA (And.intro @RJ (And.intro @Ou (And.intro @RM (And.intro @RO (@RQ)))))))))))))))))))))))))))))
def Ya :=
 And.intro @RR (@Ov)
def EV :=
 And.intro @X2 (And.intro @X3 (And.intro @X4 (And.intro @X5 (And.intro @X6 (And.intro @X7 (And.intro @X8 (And.intro @X9 (@Ya))))))))
end Go.Eng
namespace Go.Eng
open Go
section
variable {C:aZ}
theorem xR {base:Nat}:∀ {l:List CO} {i:Nat} {s:S} {K K':S→Prop},(∀ s,K s→K' s)→jD C base i l K s→jD C base i l K' s
 | [],i,s,K,K',hk,h=>hk s h
 | o :: l,i,s,K,K',hk,h=>by
  rw [mO] at h ⊢
  obtain ⟨v,d,hd,hk',_⟩:=d8 h
  exact hd.2 s .refl _ (xR hk hk')
theorem kr {F G:S→Prop} (h:∀ s,F s→G s) {s:S} (hd:down F s):down G s:=by
 obtain ⟨s1,⟨hl,hF⟩|hF⟩:=hd
 ·exact ⟨s1,.inl ⟨hl,h _ hF⟩⟩
 ·exact ⟨s1,.inr (h _ hF)⟩
theorem jk {F G:S→Prop} {Q Q':Exit→S→Prop} (h:∀ s,F s→G s) (hq:∀ e s,Q e s→Q' e s) {e:Exit} {s:S} (ha:k6 F Q e s):k6 G Q' e s:=by
 cases e<;>first | exact h _ ha | exact hq _ _ ha
theorem E5 {id:Nat} {Q Q':Exit→S→Prop} (hq:∀ e s,Q e s→Q' e s) {e:Exit} {s:S} (ha:gz id Q e s):gz id Q' e s:=by
 cases e with
 | exit i =>
  simp only [gz] at ha ⊢
  split
  ·rename_i hi; rw [if_pos hi] at ha; exact hq _ _ ha
  ·rename_i hi; rw [if_neg hi] at ha; exact hq _ _ ha
 | _=>exact hq _ _ ha
theorem qB {F G:(Exit→S→Prop)→S→Prop} (hF:∀ Q Q' s,(∀ e s,Q e s→Q' e s)→F Q s→G Q' s) {Q Q':Exit→S→Prop} (hq:∀ e s,Q e s→Q' e s):∀ {n:Nat} {s:S},og F Q n s→og G Q' n s
 | 0,s,h=>h
 | n + 1,s,h=>hF _ _ s (fun e s ha=>jk (fun s hd=>kr (fun s h=>qB hF hq h) hd) hq ha) h
theorem LB {wr:List Nat} {F:S→Prop} {Q Q':Exit→S→Prop} (hq:∀ e s,Q e s→Q' e s) {e:Exit} {s:S} (h:GK wr F Q e s):GK wr F Q' e s:=by
 cases e<;>first | exact h | exact hq _ _ h
theorem kT:∀ {c:br} {Q Q':Exit→S→Prop} {s:S},(∀ e s,Q e s→Q' e s)→aw C c Q s→aw C c Q' s:=by
 intro c
 induction c with
 | skip=>intro Q Q' s hq h; exact hq _ _ h
 | Nj ops=>intro Q Q' s hq h; exact xR (fun s h=>hq _ _ h) h
 | lF ops dF =>
  intro Q Q' s hq h
  obtain ⟨ids,hids,h⟩:=h
  obtain ⟨css,hcss,ro,hd,h⟩:=ah h
  exact ⟨ids,hids,by rw [hcss]; exact ⟨ro,hd,xR (fun s h=>hq _ _ h) h⟩⟩
 | seq a b iha ihb=>intro Q Q' s hq h; exact iha (fun e s ha=>jk (fun s h=>ihb hq h) hq ha) h
 | join a b iha ihb=>intro Q Q' s hq h; exact iha (fun e s ha=>jk (fun s h=>kr (fun s h=>ihb hq h) h) hq ha) h
 | cond c a b iha ihb =>
  intro Q Q' s hq h
  simp only [aw] at h ⊢
  obtain ⟨v,hv,h⟩:=ah h
  rw [hv]
  cases v<;>try (exact h.elim)
  exact ⟨fun e=>iha hq (h.1 e),fun e=>ihb hq (h.2 e)⟩
 | block id c ih=>intro Q Q' s hq h; exact ih (fun e s ha=>E5 hq ha) h
 | loop c ih =>
  intro Q Q' s hq h
  exact kr (fun s ⟨n,h⟩=>⟨n,qB (F:=aw C c) (G:=aw C c) (fun Q Q' s hq h=>ih hq h) hq h⟩) h
 | exit id=>intro Q Q' s hq h; exact hq _ _ h
 | ret=>intro Q Q' s hq h; exact hq _ _ h
 | label l=>intro Q Q' s hq h; exact hq _ _ h
 | goto l=>intro Q Q' s hq h; exact hq _ _ h
 | scope l c r ihc ihr =>
  intro Q Q' s hq h
  refine ihc (fun e s ha=>?_) h
  cases e with
  | goto l' =>
   refine ⟨ha.1,ihr (fun e s hb=>?_) ha.2⟩
   cases e<;>first | exact hb | exact hq _ _ hb
  | _=>exact hq _ _ ha
 | mW g ps wr as bd iha ihb =>
  intro Q Q' s hq h
  simp only [aw] at h ⊢
  obtain ⟨gv,hgv,xs,h1,h2,F,h3,h4,h5,h6⟩:=ah h
  rw [hgv]
  refine ⟨xs,h1,h2,F,h3,h4,fun i x s' hx hs=>iha (fun e s ha=>?_) (h5 i x s' hx hs),fun s' hs=>hq _ _ (h6 s' hs)⟩
  cases e<;>first | exact ha.elim | exact ihb (fun e s hb=>LB hq hb) ha
theorem Ow {g:bW} {ps wr:List Nat} {as bd:br} {Q:Exit→S→Prop} {s:S} {gv:AV} {xs:List (List AV)} {α:Type} (hd:α→S) (I:Nat→α→Prop)
  (hg:aI s g=some gv) (hit:C.i gv xs) (hlen:∀ x∈xs,x.length=ps.length) {y0:α} (h0:Le s (hd y0)∨s=hd y0) (hI0:I 0 y0) (hgd:∀ y,aI (hd y) g=some gv)
  (round:∀ i x y,xs[i]? = some x→I i y→aw C as (vJ (aw C bd (GK wr (fun s'=>∃ z,s'=hd z∧I (i + 1) z) Q))) (pM ps x (hd y)))
  (fin:∀ y,I xs.length y→Q .normal (hd y)):aw C (.mW g ps wr as bd) Q s:=by
 simp only [aw,hg,aM]
 refine ⟨xs,hit,hlen,fun i s'=>∃ y,s'=hd y∧I i y,?_,?_,?_,?_⟩
 ·rcases h0 with h0 | h0
  ·exact ⟨hd y0,.inl ⟨h0,y0,rfl,hI0⟩⟩
  ·exact gw ⟨y0,h0,hI0⟩
 ·rintro i s' ⟨y,rfl,_⟩; exact hgd y
 ·rintro i x s' hx ⟨y,rfl,hy⟩; exact round i x y hx hy
 ·rintro s' ⟨y,rfl,hy⟩; exact fin y hy
def flat (keep:List Nat):Nat→br→br × Nat
 | i,.join a b =>
  let p:=flat keep (i + 1) a
  let q:=flat keep p.2 b
  (if keep.contains i then .join p.1 q.1 else .seq p.1 q.1,q.2)
 | i,.seq a b =>
  let p:=flat keep i a
  let q:=flat keep p.2 b
  (.seq p.1 q.1,q.2)
 | i,.cond c a b =>
  let p:=flat keep i a
  let q:=flat keep p.2 b
  (.cond c p.1 q.1,q.2)
 | i,.block id c=>(.block id (flat keep i c).1,(flat keep i c).2)
 | i,.mW g ps wr as bd =>
  let p:=flat keep i as
  let q:=flat keep p.2 bd
  (.mW g ps wr p.1 q.1,q.2)
 | i,.loop c=>(.loop (flat keep i c).1,(flat keep i c).2)
 | i,.scope l c r =>
  let p:=flat keep i c
  let q:=flat keep p.2 r
  (.scope l p.1 q.1,q.2)
 | i,c=>(c,i)
theorem aj {keep:List Nat}:∀ {c:br} {i:Nat} {Q:Exit→S→Prop} {s:S},aw C (flat keep i c).1 Q s→aw C c Q s:=by
 intro c
 induction c with
 | join a b iha ihb =>
  intro i Q s h
  simp only [flat] at h
  split at h
  ·exact iha (kT (fun e s ha=>jk (fun s h=>kr (fun s h=>ihb h) h) (fun _ _ h=>h) ha) h)
  ·exact iha (kT (fun e s ha=>jk (fun s h=>gw (ihb h)) (fun _ _ h=>h) ha) h)
 | seq a b iha ihb=>intro i Q s h; exact iha (kT (fun e s ha=>jk (fun s h=>ihb h) (fun _ _ h=>h) ha) h)
 | cond c a b iha ihb =>
  intro i Q s h
  simp only [flat,aw] at h ⊢
  obtain ⟨v,hv,h⟩:=ah h
  rw [hv]
  cases v<;>try (exact h.elim)
  exact ⟨fun e=>iha (h.1 e),fun e=>ihb (h.2 e)⟩
 | block id c ih=>intro i Q s h; exact ih h
 | scope l c r ihc ihr =>
  intro i Q s h
  refine ihc (kT (fun e s ha=>?_) h)
  cases e with
  | goto l'=>exact ⟨ha.1,ihr ha.2⟩
  | _=>exact ha
 | mW g ps wr as bd iha ihb =>
  intro i Q s h
  simp only [flat,aw] at h ⊢
  obtain ⟨gv,hgv,xs,h1,h2,F,h3,h4,h5,h6⟩:=ah h
  rw [hgv]
  refine ⟨xs,h1,h2,F,h3,h4,fun i x s' hx hs=>iha (kT (fun e s ha=>?_) (h5 i x s' hx hs)),h6⟩
  cases e<;>first | exact ha.elim | exact ihb ha
 | loop c ih =>
  intro i Q s h
  exact kr (fun s ⟨n,h⟩=>⟨n,qB (F:=aw C (flat keep i c).1) (G:=aw C c) (fun Q Q' s hq h=>kT hq (ih h)) (fun _ _ h=>h) h⟩) h
 | _=>intro i Q s h; exact h
theorem Ip {c:br} {Q:Exit→S→Prop} {α:Type} (hd:α→S) (μ:α→Nat) (I:α→Prop)
  (round:∀ x,I x→aw C c (k6 (down fun s=>∃ y,s=hd y∧I y∧μ y < μ x) Q) (hd x)) {x:α} (hx:I x) {s:S} (h0:Le s (hd x)∨s=hd x):aw C (.loop c) Q s:=by
 have key:∀ n x,I x→μ x < n→og (aw C c) Q n (hd x):=by
  intro n
  induction n with
  | zero=>intro x _ h; omega
  | succ n ih =>
   intro x hx hn
   refine kT ?_ (round x hx)
   intro e s ha
   refine jk ?_ (fun _ _ h=>h) ha
   intro s hd
   refine kr ?_ hd
   rintro s ⟨y,rfl,hy,hlt⟩
   exact ih y hy (by omega)
 rcases h0 with h0|rfl
 ·exact ⟨hd x,.inl ⟨h0,μ x + 1,key _ x hx (by omega)⟩⟩
 ·exact gw ⟨μ x + 1,key _ x hx (by omega)⟩
end
theorem Vl (k:IntKind) (n:Int):jx (.int k n)=.dat (.int k n) none:=rfl
theorem RS (b:Bool):jx (.bool b)=.dat (.bool b) none:=rfl
theorem Ox (k:FloatKind) (n:Nat):jx (.float k n)=.dat (.float k n) none:=rfl
theorem Vm (s:ByteArray):jx (.str s)=.dat (.str s) none:=rfl
theorem RU:jx .Ce=.dat .Ce none:=rfl
theorem RZ:jx .bl=.dat .bl none:=rfl
theorem W9 (xs:List (List AV)):jx (.sl xs)=.dat (.sl xs) none:=rfl
theorem Xa (f:Fn) (as bs:List AV):jx (.fn f as bs)=.dat (.fn f as bs) none:=rfl
theorem Vn (cs:List AV):jx (.agg cs)=.dat (.agg cs) none:=rfl
theorem Vo (cs:List AV):jx (.ref cs)=.rp cs:=rfl
theorem Oy (i:Nat) (a:AV) (r:List AV):slotsOf i (a :: r)=(i,jx a) :: slotsOf (i + 1) r:=rfl
theorem LC (i:Nat):slotsOf i []=[]:=rfl
theorem R3 (as:List AV):K2 as=⟨slotsOf 0 as,[],[],4⟩:=rfl
theorem JF (i k:Nat) (a:AV) (r:List (Option AV)):lI i k (some a :: r)=(i,jx a) :: lI (i + 1) k r:=rfl
theorem JG (i k:Nat) (r:List (Option AV)):lI i k (none :: r)=(i,.ptr k 0) :: lI (i + 1) (k + 1) r:=rfl
theorem JH (i k:Nat):lI i k []=[]:=rfl
theorem LD (k:Nat) (cs:List AV) (css:List (List AV)):sB k (cs :: css)=(k,⟨cs,[]⟩) :: sB (k + 1) css:=rfl
theorem JI (k:Nat):sB k []=[]:=rfl
theorem Oz (css:List (List AV)) (as:List (Option AV)):Ij css as=⟨lI 0 0 as,sB 0 css,[],4⟩:=rfl
theorem R5 (res:List oI) (r:AV) (s:S):fin res r none .normal s=an (dW s res) fun p=>p.1=r:=by simp [fin,G6]
theorem R6 (res:List oI) (r:AV) (s:S):fin res r none .ret s=an (dW s res) fun p=>p.1=r:=by simp [fin,G6]
theorem R7 (res:List oI) (r:AV) (e:Nat) (s:S):fin res r (some e) .normal s=an (dW s res) fun p=>p.1=r∧G6 (some e) p.2 s.live:=rfl
theorem R8 (res:List oI) (r:AV) (e:Nat) (s:S):fin res r (some e) .ret s=an (dW s res) fun p=>p.1=r∧G6 (some e) p.2 s.live:=rfl
theorem Xb (e q:Nat) (lv:List (Nat × Nat)):G6 (some e) (some q) lv=(eA q lv=some e):=rfl
theorem OA (res:List oI) (r:AV) (css:List (List AV)) (s:S):K3 res r none css .normal s=an (dW s res) fun p=>p.1=r∧uC s.boxes 0 css:=by simp [K3,G6]
theorem OB (res:List oI) (r:AV) (css:List (List AV)) (s:S):K3 res r none css .ret s=an (dW s res) fun p=>p.1=r∧uC s.boxes 0 css:=by simp [K3,G6]
theorem OC (l:List (Nat × dU)) (k:Nat):uC l k []=True:=rfl
theorem R9 (l:List (Nat × dU)) (k:Nat) (cs:List AV) (css:List (List AV)):uC l k (cs :: css)=(an (cY k l) (fun x=>x.cells=cs)∧uC l (k + 1) css):=rfl
def OD:Option SV→Option (AV × Option Nat)
 | some (.dat a q)=>some (a,q)
 | _=>none
theorem Sa (a:AV) (q:Option Nat):OD (some (.dat a q))=some (a,q):=rfl
theorem Sb (s:S) (t:Nat):dW s [.tmp t]=OD (lk t s.slots):=rfl
def LF (sz:Option Nat) (bx:List (Nat × dU)):Option SV→Option (AV × Option Nat)
 | some (.ptr b off)=>match cY b bx with
  | some x=>match aB x.cells off sz with
   | some a=>some (a,match sz with | none=>eA off x.tags | some _=>none)
   | none=>none
  | none=>none
 | _=>none
def CM (off:Nat) (sz:Option Nat):Option dU→Option (AV × Option Nat)
 | some x=>match aB x.cells off sz with
  | some a=>some (a,match sz with | none=>eA off x.tags | some _=>none)
  | none=>none
 | none=>none
theorem Sd (s:S) (t:Nat) (sz:Option Nat):dW s [.cell t sz]=LF sz s.boxes (lk t s.slots):=rfl
theorem OE (sz:Option Nat) (bx:List (Nat × dU)) (b off:Nat):LF sz bx (some (.ptr b off))=CM off sz (cY b bx):=by
 simp only [LF,CM]
theorem OG (off n:Nat) (x:dU):CM off (some n) (some x)=(aB x.cells off (some n)).map fun a=>(a,none):=by
 simp only [CM]<;>cases aB x.cells off (some n)<;>rfl
theorem OH (off:Nat) (x:dU):CM off none (some x)=(x.cells[off]?).map fun a=>(a,eA off x.tags):=by
 simp only [CM,aB]<;>cases x.cells[off]?<;>rfl
theorem Se (s:S):dW s []=some (.cQ [],none):=rfl
theorem Sf (s:S) (x y:oI) (r:List oI):dW s (x :: y :: r)=(ni s (x :: y :: r)).map fun as=>(.cQ as,none):=rfl
def LG:Option (AV × Option Nat)→Option (List AV)→Option (List AV)
 | some p,some as=>some (p.1 :: as)
 | _,_=>none
theorem OI (a:AV) (q:Option Nat) (as:List AV):LG (some (a,q)) (some as)=some (a :: as):=rfl
theorem Sg (s:S) (x:oI) (r:List oI):ni s (x :: r)=LG (dW s [x]) (ni s r):=by
 simp only [ni,LG,dW]<;>cases Jr s x<;>cases ni s r<;>rfl
theorem OJ (s:S):ni s []=some []:=rfl
def Yb :=
 And.intro @Vl (And.intro @RS (And.intro @Ox (And.intro @Vm (And.intro @RU (And.intro @RZ (And.intro @W9 (And.intro @Xa (And.intro @Vn (And.intro @Vo (And.intro @Oy (And.intro @LC (And.intro @R3 (And.intro @JF (And.intro @JG (And.intro @JH (And.intro @LD (And.intro @JI (And.intro @Oz (And.intro @R5 (And.intro @R6 (And.intro @R7 (And.intro @R8 (And.intro @Xb (And.intro @OA (And.intro @OB (And.intro @OC (And.intro @R9 (And.intro @Sa (@Sb)))))))))))))))))))))))))))))
def Yc :=
 And.intro @Sd (And.intro @OE (And.intro @OG (And.intro @OH (And.intro @Se (And.intro @Sf (And.intro @OI (And.intro @Sg (@OJ))))))))
def EW :=
 And.intro @Yb (@Yc)
end Go.Eng
namespace Go.Eng
open Go
abbrev I (n:Int):AV:=.int .i64 n
abbrev B (b:Bool):AV:=.bool b
abbrev D (n:Nat):AV:=.float .f64 n
def bK (n:Int):Int:=IntKind.i64.wrap n
def aG {α:Type} (f:α→List AV):Option (List α)→AV
 | none=>.bl
 | some l=>.sl (l.map f)
def aC (n:Int):List AV:=[I n]
structure Ph where
 on:Bool
 min:Int
 Nk:Int
 max:Int
 top:Int
 step:Int
 cB:Int
 red:Int
 walk:Int
 dG:Int
 lJ:Int
 lock:Bool
 rest:Bool
 deriving Inhabited,DecidableEq
def Ph.cells (p:Ph):List AV:=[B p.on,I p.min,I p.Nk,I p.max,I p.top,I p.step,I p.cB,I p.red,I p.walk,I p.dG,I p.lJ,B p.lock,B p.rest]
structure vZ where
 phase:Int
 on:Nat
 off:Nat
 delay:Nat
 extend:Nat
 maxOn:Int
 sD:Int
 deriving Inhabited,DecidableEq
def vZ.cells (d:vZ):List AV:=[I d.phase,D d.on,D d.off,D d.delay,D d.extend,I d.maxOn,I d.sD]
structure Rl where
 bars:Int
 clear:Int
 gX:Int
 exit:Int
 delay:Int
 green:Int
 dR:Int
 hold:Int
 stay:Int
 most:Int
 limit:Int
 deriving Inhabited,DecidableEq
def Rl.cells (r:Rl):List AV:=[I r.bars,I r.clear,I r.gX,I r.exit,I r.delay,I r.green,I r.dR,I r.hold,I r.stay,I r.most,I r.limit]
structure Bs where
 set:Int
 lock:Int
 deriving Inhabited,DecidableEq
def Bs.cells (b:Bs):List AV:=[I b.set,I b.lock]
structure Gr where
 a:Option (List Int)
 b:Option (List Int)
 deriving Inhabited,DecidableEq
def Gr.cells (g:Gr):List AV:=[aG aC g.a,aG aC g.b]
structure Tb where
 phases:List Ph
 groups:Option (List Gr)
 conflict:List Int
 aQ:Option (List vZ)
 bA:Option (List Rl)
 lp:Option (List Bs)
 extend:Int
 gY:Int
 start:Int
 revert:Int
 least:Int
 dm:List Int
 qC:Int
 share:Int
 deriving Inhabited,DecidableEq
def Tb.cells (t:Tb):List AV :=
 t.phases.flatMap Ph.cells++(aG Gr.cells t.groups :: (t.conflict.map I++(aG vZ.cells t.aQ :: aG Rl.cells t.bA :: aG Bs.cells t.lp ::
  I t.extend :: I t.gY :: I t.start :: I t.revert :: I t.least :: (t.dm.map I++[I t.qC,I t.share]))))
structure Tb.Ok (t:Tb):Prop where
 phases:t.phases.length=8
 conflict:t.conflict.length=8
 dm:t.dm.length=8
 groups:(t.groups.getD []).length≤1048576
 rows:∀ g∈t.groups.getD [],(g.a.getD []).length≤1048576∧(g.b.getD []).length≤1048576
 Vp:(t.aQ.getD []).length≤1048576
 bA:(t.bA.getD []).length≤1048576
 lp:(t.lp.getD []).length≤1048576
theorem aH {α:Type} {f:α→List AV} {z:Nat} (hf:∀ x,(f x).length=z):∀ {l:List α},(l.flatMap f).length=l.length * z
 | []=>by simp
 | x :: l=>by simp [List.flatMap_cons,hf,aH hf (l:=l),Nat.add_mul]; omega
theorem Ph.len (p:Ph):p.cells.length=13:=rfl
theorem Tb.len {t:Tb} (h:t.Ok):t.cells.length=131:=by
 simp [Tb.cells,aH Ph.len,h.phases,h.conflict,h.dm]
theorem DI {α:Type}:∀ {l:List α} {i:Nat} {x:α},l[i]? = some x→l=l.take i++x :: l.drop (i + 1)
 | [],i,x,h=>by simp at h
 | y :: l,0,x,h=>by
  simp at h; subst h; simp
 | y :: l,i + 1,x,h=>by
  have:=DI (l:=l) (i:=i) (x:=x) (by simpa using h)
  simp only [List.take_succ_cons,List.drop_succ_cons,List.cons_append]
  exact congrArg (y :: ·) this
theorem jl {α:Type} {f:α→List AV} {l:List α} {i:Nat} {x:α} (h:l[i]? = some x):l.flatMap f=(l.take i).flatMap f++(f x++(l.drop (i + 1)).flatMap f):=by
 conv=>lhs; rw [DI h]
 rw [List.flatMap_append,List.flatMap_cons]
theorem jK {α:Type} {l:List α} {i:Nat} {x:α} (h:l[i]? = some x):(l.take i).length=i:=by
 have:=(List.getElem?_eq_some_iff.1 h).1
 simp; omega
theorem eE {pre mid post:List AV} {off z:Nat} (h1:pre.length=off) (h2:mid.length=z):aB (pre++(mid++post)) off (some z)=some (.agg mid):=by
 subst h1 h2
 have hle:pre.length + mid.length≤(pre++(mid++post)).length:=by simp
 simp only [aB,hle,if_true,Option.some.injEq,AV.agg.injEq]
 simp
theorem mJ {pre mid post ps:List AV} {off:Nat} (h1:pre.length=off) (h2:mid.length=ps.length):setCells (pre++(mid++post)) off ps=pre++(ps++post):=by
 subst h1
 simp only [setCells]
 rw [← h2]
 simp [List.drop_append]
theorem cz {cs ps:List AV} (h:cs.length=ps.length):setCells cs 0 ps=ps:=by
 simp only [setCells,List.take_zero,List.nil_append,Nat.zero_add,← h,List.drop_length,List.append_nil]
theorem Tb.ku {t:Tb} {i:Nat} {p:Ph} (h:t.phases[i]? = some p):aB t.cells (i * 13) (some 13)=some (.agg p.cells):=by
 unfold Tb.cells
 rw [jl h,List.append_assoc,List.append_assoc]
 exact eE (by rw [aH Ph.len,jK h]) rfl
theorem LH {α:Type} {l:List α} {i:Nat} {x y:α} (h:l[i]? = some x):l.set i y=l.take i++y :: l.drop (i + 1):=by
 have hlt:=(List.getElem?_eq_some_iff.1 h).1
 rw [List.set_eq_take_append_cons_drop,if_pos hlt]
theorem Tb.JJ {t:Tb} {i:Nat} {p q:Ph} (h:t.phases[i]? = some p):setCells t.cells (i * 13) q.cells={ t with phases:=t.phases.set i q }.cells:=by
 unfold Tb.cells
 simp only
 rw [LH h,List.flatMap_append,List.flatMap_cons]
 conv=>lhs; rw [jl h]
 rw [List.append_assoc,List.append_assoc,List.append_assoc,List.append_assoc]
 exact mJ (by rw [aH Ph.len,jK h]) rfl
end Go.Eng
namespace Go.Eng.Z
open Go
def o (d:Nat) (x:bV):CO:=⟨some d,x,none⟩
def p (d:Nat) (x:bV) (g:Nat):CO:=⟨some d,x,some (g,true)⟩
def q (d:Nat) (x:bV) (g:Nat):CO:=⟨some d,x,some (g,false)⟩
def n (x:bV):CO:=⟨none,x,none⟩
def M (d x:Nat):CO:=⟨some d,.mv (.t x),none⟩
def V (d:Nat) (v:AV):CO:=⟨some d,.mv (.k v),none⟩
def m (x:Nat):bV:=.mv (.t x)
def v (x:AV):bV:=.mv (.k x)
def l (x:Nat):bV:=.ld (.t x) none
def L (x z:Nat):bV:=.ld (.t x) (some z)
def f (x z:Nat):bV:=.fa (.t x) z
def s (x y z:Nat):bV:=.st (.t x) (.t y) z
def ss (x:Nat) (y:AV) (z:Nat):bV:=.st (.t x) (.k y) z
def A (x y a b:Nat):bV:=.GN (.t x) (.t y) a b
def a (x y z:Nat):bV:=.Qm (.t x) (.t y) z
def P (x y:Nat):bV:=.pick (.t x) (.t y) (.k (.bool false))
def Q (x y:Nat):bV:=.pick (.t x) (.k (.bool true)) (.t y)
def h (x:Nat):bV:=.Jd (.t x)
def w (x:Nat):bV:=.box (.t x)
def b (g:BinOp) (x y:Nat):bV:=.bin g (.t x) (.t y)
def bb (g:BinOp) (x:Nat) (y:AV):bV:=.bin g (.t x) (.k y)
def e (x y:Nat):bV:=.ext (.t x) y
def i (x:Int):AV:=.int .i64 x
def t (x:Nat):bW:=.t x
def k (x:AV):bW:=.k x
def r (x:List CO) (y:br):br:=.seq (.Nj x) y
def R (x:List CO):br:=.Nj x
def j (x y:br):br:=.join x y
def c (x:Nat) (y z:br):br:=.cond (.t x) y z
def u (x:Nat) (y:br):br:=.block x y
def y:br:=.ret
def z:br:=.skip
def T:AV:=.bool true
def F:AV:=.bool false
def H :=
 And.intro @o.eq_1 (And.intro @p.eq_1 (And.intro @q.eq_1 (And.intro @n.eq_1 (And.intro @M.eq_1 (And.intro @V.eq_1 (And.intro @m.eq_1 (And.intro @v.eq_1 (And.intro @l.eq_1 (And.intro @L.eq_1 (And.intro @f.eq_1 (And.intro @s.eq_1 (And.intro @ss.eq_1 (And.intro @A.eq_1 (And.intro @a.eq_1 (And.intro @P.eq_1 (And.intro @Q.eq_1 (And.intro @h.eq_1 (And.intro @w.eq_1 (And.intro @b.eq_1 (And.intro @bb.eq_1 (And.intro @e.eq_1 (And.intro @i.eq_1 (And.intro @t.eq_1 (And.intro @k.eq_1 (And.intro @r.eq_1 (And.intro @R.eq_1 (And.intro @j.eq_1 (And.intro @c.eq_1 (And.intro @u.eq_1 (And.intro @y.eq_1 (And.intro @z.eq_1 (And.intro @T.eq_1 @F.eq_1))))))))))))))))))))))))))))))))
end Go.Eng.Z
