/- Part 9 of the engine and its library. -/
import Derived.Test.YtdfplndcbbofjaaGreatPkS8
set_option linter.all false
set_option maxRecDepth 10000
set_option maxHeartbeats 4000000
namespace Go.Eng
open Go
section
variable (C:bk) (f:Nat) (as:List AV) (id:Nat) (lv:List (Nat×Nat)) {α:Type} (a:α) (k:SV->List (Nat×Nat)->Prop)
class Kn (α:Type) where
 run:α->Prop
class Kn2 where
 run:SV->List (Nat×Nat)->Prop
def wv{α:Type} (o:Option α) [k:Kn α]:Prop:=aj o k.run
theorem dI(o:Option α) (k:α->Prop):aj o k=@wv α o ⟨k⟩:=rfl
theorem Uh(k:α->Prop):@wv α (some a) ⟨k⟩=k a:=rfl
theorem Ui(k:α->Prop):@wv α none ⟨k⟩=False:=rfl
theorem Xy{o:Option α} {k:α->Prop} (h:o=some a) (hk:k a):@wv α o ⟨k⟩:=by subst h;exact hk
def zb:Prop:=
 ∃r fr,C.c f as r fr/\k (.dat r (fr.map λ_=>id)) (match fr with|some e=>(id,e)::lv|none=>lv)
def cl(C:bk) (f:Nat) (as:List AV) (id:Nat) (lv:List (Nat×Nat)) [k:Kn2]:Prop:=zb C f as id lv k.run
theorem kz:zb C f as id lv k=@cl C f as id lv ⟨k⟩:=rfl
@[congr] theorem aas{C:bk} {as A:List AV} (h:as=A):zb C f as id lv k=zb C f A id lv k:=by rw[h]
end
section
variable (C:bk) (f:Nat) (css:List (List AV)) (ro:List Nat) (as:List (Option AV)) (i:Nat) {id:Nat} {lv:List (Nat×Nat)} (d:Option Nat) (ids:List Nat) (o:CO)
theorem ah{C:bk} {f:Nat} {as:List AV} {k:SV->List (Nat×Nat)->Prop} {r:AV} (h:C.c f as r none) (hk:k (.dat r none) lv):@cl C f as id lv ⟨k⟩:=⟨r,none,h,hk⟩
theorem Na{C:bk} {f:Nat} {as:List AV} {k:SV->List (Nat×Nat)->Prop} {r:AV} {e:Nat} (h:C.c f as r (some e)) (hk:k (.dat r (some id)) ((id,e)::lv)):@cl C f as id lv ⟨k⟩:=⟨r,some e,h,hk⟩
class Kn3 where
 run:SV->List (Nat×cI)->List (Nat×Nat)->Prop
def A9(id:Nat) (bx:List (Nat×cI)) (lv:List (Nat×Nat)) (k:SV->List (Nat×cI)->List (Nat×Nat)->Prop):Prop:=
 ∃r fr A,C.p f css as r fr A/\k (.dat r (fr.map λ_=>id)) (dJ ids A bx) (match fr with|some e=>(id,e)::lv|none=>lv)
def clp(C:bk) (f:Nat) (css:List (List AV)) (as:List (Option AV)) (ids:List Nat) (id:Nat) (bx:List (Nat×cI)) (lv:List (Nat×Nat)) [k:Kn3]:Prop:=A9 C f css as ids id bx lv k.run
theorem Xz(id:Nat) (bx:List (Nat×cI)) (lv:List (Nat×Nat)) (k:SV->List (Nat×cI)->List (Nat×Nat)->Prop):A9 C f css as ids id bx lv k=@clp C f css as ids id bx lv ⟨k⟩:=rfl
theorem aU{C:bk} {f:Nat} {css:List (List AV)} {as:List (Option AV)} {ids:List Nat} {bx:List (Nat×cI)} {k:SV->List (Nat×cI)->List (Nat×Nat)->Prop} {r:AV} {A:List (List AV)} (h:C.p f css as r none A) (hk:k (.dat r none) (dJ ids A bx) lv):@clp C f css as ids id bx lv ⟨k⟩:=⟨r,none,A,h,hk⟩
class Kn4 where
 run:SV->Prop
def Ek(k:SV->Prop):Prop:=∃r,C.p f css as r none css/\k (.dat r none)
def clr(C:bk) (f:Nat) (css:List (List AV)) (as:List (Option AV)) [k:Kn4]:Prop:=Ek C f css as k.run
theorem XA(k:SV->Prop):Ek C f css as k=@clr C f css as ⟨k⟩:=rfl
theorem bZ{C:bk} {f:Nat} {css:List (List AV)} {as:List (Option AV)} {k:SV->Prop} {r:AV} (h:C.p f css as r none css) (hk:k (.dat r none)):@clr C f css as ⟨k⟩:=⟨r,h,hk⟩
def JQ(x:Option cI) (y:Option (List (List AV))):Option (List (List AV)):=
 match x,y with
 |some ⟨cs,[]⟩,some css=>some (cs::css)
 |_,_=>none
theorem Uj:mV ro i []=[]:=rfl
theorem XB(r:List CO):mV ro i (o::r)=(bif ro.contains i then o.ro else o)::mV ro (i+1) r:=rfl
theorem aaY(o:bE) (g:Option (Nat×Bool)):CO.ro ⟨d,o,g⟩=⟨d,o.ro,g⟩:=rfl
theorem XC(as:List bn):bE.ro (.dD f as)=.Ap f as:=rfl
def CO.pq:CO:=match o.op with
 | .dD f args=>⟨o.dst,.tZ f args,o.g⟩
 |_=>o
theorem aaZ(f:Nat) (as:List bn) (g:Option (Nat×Bool)):CO.pq ⟨d,.dD f as,g⟩=⟨d,.tZ f as,g⟩:=rfl
theorem Qr(k:Nat) (A:List Nat) (i:Nat):mW k A i []=[]:=rfl
theorem Uk(k:Nat) (A:List Nat) (i:Nat) (o:CO) (r:List CO):mW k A i (o::r)=(bif i==k then o.pq else bif A.contains i then⟨none,.mv (.k .qM),none⟩else o)::mW k A (i+1) r:=by
 simp only[mW,xR,CO.pq,cond_eq_ite,lc];rfl
def Qs:List CO->List Nat
 |[]=>[]
 |⟨some d,_,_⟩::r=>d::Qs r
 |⟨none,_,_⟩::r=>Qs r
theorem Ul:Qs []=[]:=rfl
theorem Um(d:Nat) (o:bE) (g:Option (Nat×Bool)) (r:List CO):Qs (⟨some d,o,g⟩::r)=d::Qs r:=rfl
theorem Un(o:bE) (g:Option (Nat×Bool)) (r:List CO):Qs (⟨none,o,g⟩::r)=Qs r:=rfl
theorem Io:∀{l:List CO},(l.flatMap λo=>o.dst.toList)=Qs l
 |[]=>rfl
 |⟨some d,_,_⟩::r=>by rw[xo,Io];rfl
 |⟨none,_,_⟩::r=>by rw[xo,Io];rfl
def pD:Nat->List CO->Option Nat
 |0,o::_=>o.dst
 |k+1,_::r=>pD k r
 |_,[]=>none
theorem Tc:∀{k:Nat} {l:List CO},(l[k]?).bind CO.dst=pD k l
 |0,[]=>rfl
 |_+1,[]=>rfl
 |0,o::_=>rfl
 |k+1,_::r=>by rw[kx];exact Tc
class Kn5 where
 run:AV->List (List AV)->Prop
def El(k:AV->List (List AV)->Prop):Prop:=∃v A,C.q f css as v A/\k v A
def clq(C:bk) (f:Nat) (css:List (List AV)) (as:List (Option AV)) [k:Kn5]:Prop:=El C f css as k.run
theorem XD(k:AV->List (List AV)->Prop):El C f css as k=@clq C f css as ⟨k⟩:=rfl
theorem XE(g:bn) (as:List bn):bE.ro (.fQ g as)=.qY g as:=rfl
end
section
variable{C:bk} {Q:Exit->S->Prop} {K:SV->S->Prop} {J:S->Prop}
variable(sl:List (Nat×SV)) (bx:List (Nat×cI)) (lv:List (Nat×Nat)) (nx:Nat)
section
variable (id:Nat) (k:SV->Prop) (b:Nat) (x:bn) (n f:Nat) (ops:List CO) (yes:Prop) (h:Bool) (a:AV) (as:List (Option AV)) (cs:List AV) (d:Option Nat) (cJ:List (Nat×Nat)) (o:Nat) (ds:List Nat) (g i:bn) (z:Nat) (no:Prop) (X:AV->S->Prop) (css:List (List AV)) (s:S) (ids:List Nat) (mx:Bool) (q A:Option Nat) (ps:List (Nat×Nat)) (F:List CO->S->Prop) (args:List bn) (c:bn) (fn:Fn) (m:Nat) (neg:Bool) (off:Nat) (p:List (Option AV)×List Nat) (ro:List Nat) (w:Bool) (xs:List (List AV))
theorem F5(v:SV) (r:List (Nat×SV)):lk n ((m,v)::r)=bif n==m then some v else lk n r:=rfl
theorem zc(v:cI) (r:List (Nat×cI)):b9 n ((m,v)::r)=bif n==m then some v else b9 n r:=rfl
theorem we(v:Nat) (r:List (Nat×Nat)):dY n ((m,v)::r)=bif n==m then some v else dY n r:=rfl
theorem rL:dY n []=none:=rfl
theorem Uo(b v:cI) (r:List (Nat×cI)):nK n b ((m,v)::r)=bif n==m then(m,b)::r else(m,v)::nK n b r:=rfl
theorem Up(v:Nat) (r:List (Nat×Nat)):lZ n ((m,v)::r)=bif n==m then lZ n r else(m,v)::lZ n r:=rfl
theorem Qt:lZ n []=[]:=rfl
theorem XF(d:Nat) (v:SV):S.put ⟨sl,bx,lv,nx⟩ (some d) v=⟨(d,v)::sl,bx,lv,nx⟩:=rfl
theorem Ur(v:SV):S.put ⟨sl,bx,lv,nx⟩ none v=⟨sl,bx,lv,nx⟩:=rfl
theorem Us:bK ⟨sl,bx,lv,nx⟩ (.t n)=lk n sl:=rfl
theorem Ut(v:AV):bK ⟨sl,bx,lv,nx⟩ (.k v)=some (.dat v none):=rfl
def Ll:Option SV->Option AV
 |some (.dat a _)=>some a
 |some (.rp cs)=>some (.ref cs)
 |_=>none
theorem Qu:Ll (some (.rp cs))=some (.ref cs):=rfl
theorem Uu:Ll (some (.dat a q))=some a:=rfl
theorem Qv:aF ⟨sl,bx,lv,nx⟩ (.t n)=Ll (lk n sl):=rfl
theorem Qw(v:AV):aF ⟨sl,bx,lv,nx⟩ (.k v)=some v:=rfl
def Te:Option AV->Option (List AV)->Option (List AV)
 |some a,some as=>some (a::as)
 |_,_=>none
theorem Qx(as:List AV):Te (some a) (some as)=some (a::as):=rfl
theorem Qy(r:List bn):dQ ⟨sl,bx,lv,nx⟩ (x::r)=Te (aF ⟨sl,bx,lv,nx⟩ x) (dQ ⟨sl,bx,lv,nx⟩ r):=rfl
theorem Nb:dQ ⟨sl,bx,lv,nx⟩ []=some []:=rfl
theorem Qz(i:Nat):jb C b i [] J ⟨sl,bx,lv,nx⟩=J ⟨sl,bx,lv,nx⟩:=rfl
theorem Uv(i:Nat) (d:Option Nat) (o:bE) (r:List CO):jb C b i (⟨d,o,none⟩::r) J ⟨sl,bx,lv,nx⟩=bB C (b+i) o (λv A=>jb C b (i+1) r J (A.put d v)) ⟨sl,bx,lv,nx⟩:=rfl
def nL(want:Bool) (yes no:Prop):Option SV->Prop
 |some (.dat (.bool b) _)=>(b=want->yes)/\(b=!want->no)
 |some .undef=>no
 |_=>False
theorem QB(i t:Nat) (w:Bool) (d:Option Nat) (o:bE) (r:List CO):jb C b i (⟨d,o,some (t,w)⟩::r) J ⟨sl,bx,lv,nx⟩=
  nL w (bB C (b+i) o (λv A=>jb C b (i+1) r J (A.put d v)) ⟨sl,bx,lv,nx⟩) (jb C b (i+1) r J (S.put ⟨sl,bx,lv,nx⟩ d .undef)) (lk t sl):=by
 simp only[jb,fm,nL]
 cases lk t sl with
 |none=>rfl
 |some v=>cases v with
  |dat a q=>cases a<;>rfl
  |ptr=>rfl
  |rp=>rfl
  |undef=>rfl
  |vs=>rfl
  |tW=>rfl
  |raw=>rfl
  |pt=>rfl
class KP where
 yes:Prop
 no:Prop
def gd(w:Bool) (v:Option SV) [k:KP]:Prop:=nL w k.yes k.no v
theorem nM(yes no:Prop) (v:Option SV):nL w yes no v=@gd w v ⟨yes,no⟩:=rfl
theorem Nc(yes no:Prop):@gd w (some .undef) ⟨yes,no⟩=no:=rfl
theorem Nd:@gd true (some (.dat (.bool true) q)) ⟨yes,no⟩=yes:=by simp[gd,nL]
theorem Lm:@gd true (some (.dat (.bool false) q)) ⟨yes,no⟩=no:=by simp[gd,nL]
theorem Nf:@gd false (some (.dat (.bool false) q)) ⟨yes,no⟩=yes:=by simp[gd,nL]
theorem Lo:@gd false (some (.dat (.bool true) q)) ⟨yes,no⟩=no:=by simp[gd,nL]
theorem aa0:bB C id (.mv x) K ⟨sl,bx,lv,nx⟩=aj (bK ⟨sl,bx,lv,nx⟩ x) λv=>K v ⟨sl,bx,lv,nx⟩:=rfl
def Ba(a b:Option SV) (k:SV->Prop):AV->Prop
 | .bool t=>aj a λu=>aj b λv=>(t=true->k u)/\(t=false->k v)
 |_=>False
theorem Uw(a b:bn):bB C id (.pick c a b) K ⟨sl,bx,lv,nx⟩=aj (aF ⟨sl,bx,lv,nx⟩ c) (Ba (bK ⟨sl,bx,lv,nx⟩ a) (bK ⟨sl,bx,lv,nx⟩ b) λv=>K v ⟨sl,bx,lv,nx⟩):=rfl
def pk(a b:Option SV) (c:AV) [k:Kn SV]:Prop:=Ba a b k.run c
theorem wg(a b:Option SV) (k:SV->Prop) (c:AV):Ba a b k c=@pk a b c ⟨k⟩:=rfl
theorem QC(b:Option SV) (v:SV):@pk (some v) b (.bool true) ⟨k⟩=aj b λ_=>k v:=by simp[pk,Ba]
theorem QD(a:Option SV) (v:SV):@pk a (some v) (.bool false) ⟨k⟩=aj a λ_=>k v:=by
 cases a<;>simp[pk,Ba]
theorem QE:bB C id (.alloc cs) K ⟨sl,bx,lv,nx⟩=K (.ptr id 0) ⟨sl,(id,⟨cs,[]⟩)::bx,lv,nx⟩:=rfl
theorem XG:bB C id (.box x) K ⟨sl,bx,lv,nx⟩=aj (aF ⟨sl,bx,lv,nx⟩ x) λa=>iL a none=true/\K (.ptr id 0) ⟨sl,(id,⟨a.cells,[]⟩)::bx,lv,nx⟩:=rfl
def W4(bx:List (Nat×cI)) (k:SV->Prop):SV->Prop
 | .ptr b off=>aj (b9 b bx) λx=>aj (aH x.cells off A) λa=>k (.dat a (match A with|none=>dY off x.tags|some _=>none))
 | .rp cs=>aj (aH cs 0 A) λa=>k (.dat a none)
 |_=>False
theorem aa1:bB C id (.ld x A) K ⟨sl,bx,lv,nx⟩=aj (bK ⟨sl,bx,lv,nx⟩ x) (W4 A bx λv=>K v ⟨sl,bx,lv,nx⟩):=rfl
theorem Ux:W4 none bx k (.ptr b off)=aj (b9 b bx) λx=>aj (aH x.cells off none) λa=>k (.dat a (dY off x.tags)):=rfl
theorem Uy(n:Nat):W4 (some n) bx k (.ptr b off)=aj (b9 b bx) λx=>aj (aH x.cells off (some n)) λa=>k (.dat a none):=rfl
theorem XH(cs:List AV):W4 A bx k (.rp cs)=aj (aH cs 0 A) λa=>k (.dat a none):=rfl
def pI(A:Nat) (q:Option Nat) (tags:List (Nat×Nat)):List (Nat×Nat):=
 match q with
 |some q=>(off,q)::tags.filter (λp=>p.1<off||off+A<=p.1)
 |none=>tags.filter (λp=>p.1<off||off+A<=p.1)
def XI(A off:Nat) (x:cI) (k:cI->Prop):SV->Prop
 | .dat a q=>iL a q=true/\a.cells.length=A/\off+A<=x.cells.length/\k ⟨setCells x.cells off a.cells,pI off A q x.tags⟩
 |_=>False
def stP(A:Nat) (bx:List (Nat×cI)) (v:Option SV) (k:List (Nat×cI)->Prop):SV->Prop
 | .ptr b off=>aj (b9 b bx) λx=>aj v (XI A off x λy=>k (nK b y bx))
 |_=>False
theorem aa2(v:bn) (A:Nat):bB C id (.st x v A) K ⟨sl,bx,lv,nx⟩=aj (bK ⟨sl,bx,lv,nx⟩ x) (stP A bx (bK ⟨sl,bx,lv,nx⟩ v) λb=>K .undef ⟨sl,b,lv,nx⟩):=by
 show aj _ _=aj _ _
 cases D:bK ⟨sl,bx,lv,nx⟩ x with
 |none=>rfl
 |some p=>cases p with
  |ptr b off=>
   show aj _ _=aj _ _
   cases L:b9 b bx with
   |none=>rfl
   |some y=>
    show aj _ _=aj _ _
    cases B:bK ⟨sl,bx,lv,nx⟩ v with
    |none=>rfl
    |some u=>cases u with
     |dat a q=>cases q<;>rfl
     |_=>rfl
  |_=>rfl
theorem XJ(A b off:Nat) (v:Option SV) (k:List (Nat×cI)->Prop):stP A bx v k (.ptr b off)=aj (b9 b bx) λx=>aj v (XI A off x λy=>k (nK b y bx)):=rfl
theorem XK(A off:Nat) (cs:List AV) (B:List (Nat×Nat)) (k:cI->Prop) (a:AV) (q:Option Nat):XI A off ⟨cs,B⟩ k (.dat a q)=(iL a q=true/\a.cells.length=A/\off+A<=cs.length/\k ⟨setCells cs off a.cells,pI off A q B⟩):=rfl
theorem QF(A:Nat):pI off A none []=[]:=rfl
theorem QG(A q:Nat):pI off A (some q) []=[(off,q)]:=rfl
def W5(k:SV->Prop):SV->Prop
 | .ptr b o=>k (.ptr b (o+off))
 | .rp cs=>k (.rp (cs.drop off))
 | .pt 2 ps=>k (.pt 2 (ps.drop off))
 |_=>False
theorem aa3:bB C id (.fa x off) K ⟨sl,bx,lv,nx⟩=aj (bK ⟨sl,bx,lv,nx⟩ x) (W5 off λv=>K v ⟨sl,bx,lv,nx⟩):=rfl
theorem XL:W5 off k (.ptr b o)=k (.ptr b (o+off)):=rfl
theorem XM:W5 off k (.rp cs)=k (.rp (cs.drop off)):=rfl
def XN(d:Nat) (k:SV->Prop):SV->Prop
 | .ptr b o=>k (.ptr b (o+d))
 | .rp cs=>k (.rp (cs.drop d))
 |_=>False
theorem XP(n z:Nat):bB C id (.Mr x i n z) K ⟨sl,bx,lv,nx⟩=aj (bK ⟨sl,bx,lv,nx⟩ x) λp=>aj (aF ⟨sl,bx,lv,nx⟩ i) λa=>aj (idxOf a) λi=>(0<=i/\i<n)/\XN (i.toNat*z) (λv=>K v ⟨sl,bx,lv,nx⟩) p:=rfl
theorem XQ(d:Nat):XN d k (.ptr b o)=k (.ptr b (o+d)):=rfl
theorem XR(d:Nat):XN d k (.rp cs)=k (.rp (cs.drop d)):=rfl
theorem XS(k:IntKind) (i:Int):idxOf (.int k i)=some i:=rfl
def Ng(A:Option AV) (z:Nat) (k:SV->Prop):SV->Prop
 | .dat l _=>aj A λa=>aj (idxOf a) λi=>aj (rowsOf l) λxs=>(0<=i/\i<xs.length)/\aj (xs[i.toNat]?) λrow=>row.length=z/\k (.rp row)
 | .vs b off n B=>aj A λa=>aj (idxOf a) λi=>(0<=i/\i<n)/\B=z/\k (.ptr b (off+i.toNat*z))
 |_=>False
theorem XT:bB C id (.PU x i z) K ⟨sl,bx,lv,nx⟩=aj (bK ⟨sl,bx,lv,nx⟩ x) (Ng (aF ⟨sl,bx,lv,nx⟩ i) z λv=>K v ⟨sl,bx,lv,nx⟩):=by
 show aj _ _=aj _ _
 cases bK ⟨sl,bx,lv,nx⟩ x with
 |none=>rfl
 |some v=>cases v<;>rfl
theorem Uz(A:Option AV) (z:Nat) (k:SV->Prop) (l:AV) (q:Option Nat):Ng A z k (.dat l q)=aj A λa=>aj (idxOf a) λi=>aj (rowsOf l) λxs=>(0<=i/\i<xs.length)/\aj (xs[i.toNat]?) λrow=>row.length=z/\k (.rp row):=rfl
theorem UA(B:Option AV) (z:Nat) (k:SV->Prop) (b off n A:Nat):Ng B z k (.vs b off n A)=aj B λa=>aj (idxOf a) λi=>(0<=i/\i<n)/\A=z/\k (.ptr b (off+i.toNat*z)):=rfl
@[congr] theorem aa4{B A:Option AV} (k:SV->Prop) {v D:SV} (h:B=A) (L:v=D):Ng B z k v=Ng A z k D:=by rw[h,L]
theorem UB:rowsOf (.sl xs)=some xs:=rfl
theorem QH:rowsOf .bF=some []:=rfl
def Ip(k:List AV->Prop):AV->Prop
 | .agg cs=>k cs
 |_=>False
theorem XU(k:List AV->Prop) (cs:List AV):Ip k (.agg cs)=k cs:=rfl
theorem XV(A:Option Nat):bB C id (.D2 x off A) K ⟨sl,bx,lv,nx⟩=aj (aF ⟨sl,bx,lv,nx⟩ x) (Ip λcs=>aj (aH cs off A) λa=>K (.dat a none) ⟨sl,bx,lv,nx⟩):=rfl
theorem XW(n z:Nat) (A:Option Nat):bB C id (.HL x i n z A) K ⟨sl,bx,lv,nx⟩=aj (aF ⟨sl,bx,lv,nx⟩ x) (Ip λcs=>aj (aF ⟨sl,bx,lv,nx⟩ i) λa=>aj (idxOf a) λi=>(0<=i/\i<n)/\aj (aH cs (i.toNat*z) A) λa=>K (.dat a none) ⟨sl,bx,lv,nx⟩):=rfl
theorem XX(op:BinOp) (x y:bn):bB C id (.bin op x y) K ⟨sl,bx,lv,nx⟩=aj (aF ⟨sl,bx,lv,nx⟩ x) λa=>aj (aF ⟨sl,bx,lv,nx⟩ y) λb=>aj (dO op a b) λv=>K (.dat v none) ⟨sl,bx,lv,nx⟩:=rfl
theorem XY(A:List CK) (neg:Bool) (x y:bn):bB C id (.eqc A neg x y) K ⟨sl,bx,lv,nx⟩=aj (aF ⟨sl,bx,lv,nx⟩ x) (Ip λas=>aj (aF ⟨sl,bx,lv,nx⟩ y) (Ip λB=>aj (dH A as B) λe=>K (.dat (.bool (e !=neg)) none) ⟨sl,bx,lv,nx⟩)):=rfl
theorem aa5(x y:bn):bB C id (.bb neg x y) K ⟨sl,bx,lv,nx⟩=aj (aF ⟨sl,bx,lv,nx⟩ x) λa=>aj (aF ⟨sl,bx,lv,nx⟩ y) λb=>aj (WW neg a b) λv=>K (.dat v none) ⟨sl,bx,lv,nx⟩:=rfl
theorem aa6(op:UnOp) (x:bn):bB C id (.un op x) K ⟨sl,bx,lv,nx⟩=aj (aF ⟨sl,bx,lv,nx⟩ x) λa=>aj (TP op a) λv=>K (.dat v none) ⟨sl,bx,lv,nx⟩:=rfl
theorem UC(k:IntKind) (x:bn):bB C id (.uI k x) K ⟨sl,bx,lv,nx⟩=aj (aF ⟨sl,bx,lv,nx⟩ x) λa=>aj (CZ k a) λv=>K (.dat v none) ⟨sl,bx,lv,nx⟩:=rfl
theorem UD(k:FloatKind) (x:bn):bB C id (.CI k x) K ⟨sl,bx,lv,nx⟩=aj (aF ⟨sl,bx,lv,nx⟩ x) λa=>aj (C0 k a) λv=>K (.dat v none) ⟨sl,bx,lv,nx⟩:=rfl
theorem UE(k:IntKind) (x:bn):bB C id (.Ft k x) K ⟨sl,bx,lv,nx⟩=aj (aF ⟨sl,bx,lv,nx⟩ x) λa=>aj (yK k a) λv=>K (.dat v none) ⟨sl,bx,lv,nx⟩:=rfl
def Lp:SV->Prop
 | .dat a _=>aj (vI a) λv=>k (.dat v none)
 | .vs _ _ n _=>k (.dat (.int .i64 n) none)
 |_=>False
theorem UF:bB C id (.HR x) K ⟨sl,bx,lv,nx⟩=aj (bK ⟨sl,bx,lv,nx⟩ x) (Lp λv=>K v ⟨sl,bx,lv,nx⟩):=by
 show aj _ _=aj _ _
 cases bK ⟨sl,bx,lv,nx⟩ x with
 |none=>rfl
 |some v=>cases v<;>rfl
theorem JR:Lp k (.dat a q)=aj (vI a) λv=>k (.dat v none):=rfl
theorem QI(n z:Nat):Lp k (.vs b o n z)=k (.dat (.int .i64 n) none):=rfl
@[congr] theorem aa7{v A:SV} (B:v=A):Lp k v=Lp k A:=by rw[B]
theorem aa8(e:Xt) (x:bn):bB C id (.xt e x) K ⟨sl,bx,lv,nx⟩=aj (aF ⟨sl,bx,lv,nx⟩ x) λa=>aj (WX e a) λv=>K (.dat v none) ⟨sl,bx,lv,nx⟩:=rfl
theorem aa9:WX .Fs (.float .f64 b)=some (.int .u64 b):=rfl
theorem aba(n:Int):WX .ffrom (.int .u64 n)=some (.float .f64 n.toNat):=rfl
theorem abb:WX .rte (.float .f64 b)=D4 b:=rfl
def UG(k:SV->S->Prop):SV->Prop
 | .rp cs=>n*z<=cs.length/\k (.dat (.sl (cq z n cs)) none) s
 | .ptr b off=>4<=b/\aj (b9 b s.boxes) λbx=>n*z<=(bx.cells.drop off).length/\k (.dat (.sl (cq z n (bx.cells.drop off))) none) (gp [b] [bx.cells] s)
 |_=>False
theorem XZ:bB C id (.S0 x n z) K ⟨sl,bx,lv,nx⟩=aj (bK ⟨sl,bx,lv,nx⟩ x) (UG n z ⟨sl,bx,lv,nx⟩ K):=by
 show aj _ _=aj _ _
 cases bK ⟨sl,bx,lv,nx⟩ x with
 |none=>rfl
 |some v=>cases v<;>rfl
theorem UH(k:SV->S->Prop) (cs:List AV):UG n z s k (.rp cs)=(n*z<=cs.length/\k (.dat (.sl (cq z n cs)) none) s):=rfl
theorem UI(k:SV->S->Prop) (b off:Nat):UG n z ⟨sl,bx,lv,nx⟩ k (.ptr b off)=(4<=b/\aj (b9 b bx) λy=>n*z<=(y.cells.drop off).length/\k (.dat (.sl (cq z n (y.cells.drop off))) none) (gp [b] [y.cells] ⟨sl,bx,lv,nx⟩)):=rfl
def X0(i:bn) (k:AV->Prop):AV->Prop
 | .str b=>aj (aF s i) λa=>aj (idxOf a) λj=>aj (Jo b j) k
 |_=>False
theorem X1:bB C id (.Xk x i) K ⟨sl,bx,lv,nx⟩=aj (aF ⟨sl,bx,lv,nx⟩ x) (X0 ⟨sl,bx,lv,nx⟩ i λv=>K (.dat v none) ⟨sl,bx,lv,nx⟩):=by
 show aj _ _=aj _ _
 cases aF ⟨sl,bx,lv,nx⟩ x with
 |none=>rfl
 |some v=>cases v<;>rfl
theorem UJ(i:bn) (k:AV->Prop) (b:ByteArray):X0 s i k (.str b)=aj (aF s i) λa=>aj (idxOf a) λj=>aj (Jo b j) k:=rfl
theorem UK:bB C id (.HS n) K ⟨sl,bx,lv,nx⟩=K (.dat (.int .i64 n) none) ⟨sl,bx,lv,nx⟩:=rfl
theorem UM:bB C id (.call f args) K ⟨sl,bx,lv,nx⟩=aj (dQ ⟨sl,bx,lv,nx⟩ args) λas=>zb C f as id lv λv l=>K v ⟨sl,bx,l,nx⟩:=rfl
def Em(C:bk) (id:Nat) (lv:List (Nat×Nat)) (as:List AV) (k:SV->List (Nat×Nat)->Prop):AV->Prop
 | .fn (.func f) first caps=>zb C f (first++as++caps) id lv k
 |_=>False
@[congr] theorem X2(lv:List (Nat×Nat)) (as:List AV) (k:SV->List (Nat×Nat)->Prop) {v A:AV} (h:v=A):Em C id lv as k v=Em C id lv as k A:=by rw[h]
def Dm:Option SV->Option (List (Option AV)×List Nat)->Option (List (Option AV)×List Nat)
 |some (.dat a _),some p=>some (some a::p.1,p.2)
 |some (.rp cs),some p=>some (some (.ref cs)::p.1,p.2)
 |some (.ptr b 0),some p=>some (none::p.1,b::p.2)
 |some (.pt 0 [(b,0)]),some p=>bif h then some (some .hole::p.1,b::p.2)else none
 |_,_=>none
theorem Nh:Dm h (some (.dat a q)) (some p)=some (some a::p.1,p.2):=rfl
theorem Ni:Dm h (some (.rp cs)) (some p)=some (some (.ref cs)::p.1,p.2):=rfl
theorem Nj(b:Nat) (p:List (Option AV)×List Nat):Dm h (some (.ptr b 0)) (some p)=some (none::p.1,b::p.2):=rfl
theorem UN:dS h ⟨sl,bx,lv,nx⟩ []=some ([],[]):=rfl
theorem X3(x:bn) (r:List bn):dS h ⟨sl,bx,lv,nx⟩ (x::r)=Dm h (bK ⟨sl,bx,lv,nx⟩ x) (dS h ⟨sl,bx,lv,nx⟩ r):=by
 rw[dS];unfold Dm
 cases bK ⟨sl,bx,lv,nx⟩ x with
 |none=>rfl
 |some v=>
  cases dS h ⟨sl,bx,lv,nx⟩ r with
  |none=>cases v with
   |ptr b o=>cases o<;>rfl
   |pt k ps=>match k,ps with
    |0,[(b,0)]=>rfl
    |0,[(b,o+1)]=>rfl
    |0,[]=>rfl
    |0,(_,0)::_::_=>rfl
    |0,(_,o+1)::_::_=>rfl
    |k+1,_=>rfl
   |_=>rfl
  |some p=>
   obtain⟨as,A⟩:=p
   cases v with
   |ptr b o=>cases o<;>rfl
   |pt k ps=>match k,ps with
    |0,[(b,0)]=>rfl
    |0,[(b,o+1)]=>rfl
    |0,[]=>rfl
    |0,(_,0)::_::_=>rfl
    |0,(_,o+1)::_::_=>rfl
    |k+1,_=>rfl
   |_=>rfl
theorem Nk:aV bx []=some []:=rfl
def Tf:Option cI->Option (List (List AV))->Option (List (List AV))
 |some x,some css=>some (x.cells::css)
 |_,_=>none
theorem QJ(x:cI) (css:List (List AV)):Tf (some x) (some css)=some (x.cells::css):=rfl
theorem QK(A:List Nat):aV bx (b::A)=Tf (b9 b bx) (aV bx A):=rfl
theorem Nl:c8 []=true:=rfl
theorem QL(A:List Nat):c8 (b::A)=(!A.contains b&&c8 A):=rfl
theorem QM(A:List Nat) (cs:List AV) (css:List (List AV)):dJ (b::A) (cs::css) bx=dJ A css (nK b ⟨cs,[]⟩ bx):=rfl
theorem Lq:dU bx []=some []:=rfl
theorem Nm(A:List Nat):dU bx (b::A)=JQ (b9 b bx) (dU bx A):=rfl
theorem Lr:JQ (some ⟨cs,[]⟩) (some css)=some (cs::css):=rfl
theorem Nn:dJ [] css bx=bx:=rfl
def En(C:bk) (f id:Nat) (bx:List (Nat×cI)) (lv:List (Nat×Nat)) (k:SV->List (Nat×cI)->List (Nat×Nat)->Prop) (p:List (Option AV)×List Nat):Prop:=
 c8 p.2=true/\aj (aV bx p.2) λcss=>A9 C f css p.1 p.2 id bx lv k
theorem No(id:Nat) (as:List (Option AV)) (ids:List Nat) (k:SV->List (Nat×cI)->List (Nat×Nat)->Prop):En C f id bx lv k (as,ids)=(c8 ids=true/\aj (aV bx ids) λcss=>A9 C f css as ids id bx lv k):=rfl
def Np(C:bk) (f:Nat) (bx:List (Nat×cI)) (k:SV->List (Nat×cI)->Prop) (p:List (Option AV)×List Nat):Prop:=
 c8 p.2=true/\aj (aV bx p.2) λcss=>El C f css p.1 λv A=>k (.dat v none) (dJ p.2 A bx)
theorem Nq(k:SV->List (Nat×cI)->Prop):Np C f bx k (as,ids)=(c8 ids=true/\aj (aV bx ids) λcss=>El C f css as λv A=>k (.dat v none) (dJ ids A bx)):=rfl
theorem QN:bB C id (.tZ f args) K ⟨sl,bx,lv,nx⟩=aj (dS true ⟨sl,bx,lv,nx⟩ args) (Np C f bx λv b=>K v ⟨sl,b,lv,nx⟩):=rfl
theorem QO:bB C id (.dD f args) K ⟨sl,bx,lv,nx⟩=aj (dS true ⟨sl,bx,lv,nx⟩ args) (En C f id bx lv λv b l=>K v ⟨sl,b,l,nx⟩):=rfl
theorem QS:bB C id (.jx g args) K ⟨sl,bx,lv,nx⟩=aj (aF ⟨sl,bx,lv,nx⟩ g) λa=>aj (dQ ⟨sl,bx,lv,nx⟩ args) λas=>Em C id lv as (λv l=>K v ⟨sl,bx,l,nx⟩) a:=by
 show aj _ _=aj _ _
 cases B:aF ⟨sl,bx,lv,nx⟩ g with
 |none=>rfl
 |some a=>
  show(match a with| .fn (.func f) first caps=>_|_=>False)=_
  cases A:dQ ⟨sl,bx,lv,nx⟩ args with
  |none=>cases a<;>first|rfl|(rename_i f _ _;cases f<;>rfl)
  |some as=>cases a<;>first|rfl|(rename_i f _ _;cases f<;>rfl)
theorem Nr(as first caps:List AV) (k:SV->List (Nat×Nat)->Prop):Em C id lv as k (.fn (.func f) first caps)=zb C f (first++as++caps) id lv k:=rfl
def zZ(C:bk) (id:Nat) (bx:List (Nat×cI)) (lv:List (Nat×Nat)) (p:List (Option AV)×List Nat) (k:SV->List (Nat×cI)->List (Nat×Nat)->Prop):AV->Prop
 | .fn (.func f) [] []=>En C f id bx lv k p
 |_=>False
@[congr] theorem W6(bx:List (Nat×cI)) (lv:List (Nat×Nat)) {p B:List (Option AV)×List Nat} (k:SV->List (Nat×cI)->List (Nat×Nat)->Prop) {v A:AV} (D:p=B) (h:v=A):zZ C id bx lv p k v=zZ C id bx lv B k A:=by rw[h,D]
theorem Ns:bB C id (.fQ g args) K ⟨sl,bx,lv,nx⟩=aj (aF ⟨sl,bx,lv,nx⟩ g) λa=>aj (dS true ⟨sl,bx,lv,nx⟩ args) λp=>zZ C id bx lv p (λv b l=>K v ⟨sl,b,l,nx⟩) a:=by
 show aj _ _=aj _ _
 cases B:aF ⟨sl,bx,lv,nx⟩ g with
 |none=>rfl
 |some a=>
  show(match a with| .fn (.func f) [] []=>_|_=>False)=_
  cases A:dS true ⟨sl,bx,lv,nx⟩ args with
  |none=>cases a<;>first|rfl|(rename_i f x y;cases f<;>first|rfl|(cases x<;>first|rfl|(cases y<;>rfl)))
  |some as=>cases a<;>first|rfl|(rename_i f x y;cases f<;>first|rfl|(cases x<;>first|rfl|(cases y<;>rfl)))
def Eo(C:bk) (f:Nat) (bx:List (Nat×cI)) (k:SV->Prop) (p:List (Option AV)×List Nat):Prop:=
 c8 p.2=true/\aj (dU bx p.2) λcss=>Ek C f css p.1 k
theorem QT:bB C id (.Ap f args) K ⟨sl,bx,lv,nx⟩=aj (dS true ⟨sl,bx,lv,nx⟩ args) (Eo C f bx λv=>K v ⟨sl,bx,lv,nx⟩):=rfl
theorem Nt(k:SV->Prop):Eo C f bx k (as,ids)=(c8 ids=true/\aj (dU bx ids) λcss=>Ek C f css as k):=rfl
def z0(C:bk) (bx:List (Nat×cI)) (p:List (Option AV)×List Nat) (k:SV->Prop):AV->Prop
 | .fn (.func f) [] []=>Eo C f bx k p
 |_=>False
@[congr] theorem W7 (bx:List (Nat×cI)) {p B:List (Option AV)×List Nat} (k:SV->Prop) {v A:AV} (D:p=B) (h:v=A):z0 C bx p k v=z0 C bx B k A:=by rw[h,D]
theorem Nu:bB C id (.qY g args) K ⟨sl,bx,lv,nx⟩=aj (aF ⟨sl,bx,lv,nx⟩ g) λa=>aj (dS true ⟨sl,bx,lv,nx⟩ args) λp=>z0 C bx p (λv=>K v ⟨sl,bx,lv,nx⟩) a:=by
 show aj _ _=aj _ _
 cases B:aF ⟨sl,bx,lv,nx⟩ g with
 |none=>rfl
 |some a=>
  show(match a with| .fn (.func f) [] []=>_|_=>False)=_
  cases A:dS true ⟨sl,bx,lv,nx⟩ args with
  |none=>cases a<;>first|rfl|(rename_i f x y;cases f<;>first|rfl|(cases x<;>first|rfl|(cases y<;>rfl)))
  |some as=>cases a<;>first|rfl|(rename_i f x y;cases f<;>first|rfl|(cases x<;>first|rfl|(cases y<;>rfl)))
theorem Ls(k:SV->Prop):z0 C bx p k (.fn (.func f) [] [])=Eo C f bx k p:=rfl
theorem Lt(k:SV->List (Nat×cI)->List (Nat×Nat)->Prop):zZ C id bx lv p k (.fn (.func f) [] [])=En C f id bx lv k p:=rfl
theorem X4(x:bn):bB C id (.TK neg x) K ⟨sl,bx,lv,nx⟩=aj (aF ⟨sl,bx,lv,nx⟩ x) λa=>aj (Fv neg a) λv=>K (.dat (.bool v) none) ⟨sl,bx,lv,nx⟩:=rfl
theorem X5(i:Nat):bB C id (.ext x i) K ⟨sl,bx,lv,nx⟩=aj (aF ⟨sl,bx,lv,nx⟩ x) λa=>aj (Mz a i) λv=>K (.dat v none) ⟨sl,bx,lv,nx⟩:=rfl
theorem UO(A o:Nat):jw b cs (.ptr A o)=bif A==b then .rp (cs.drop o)else .ptr A o:=rfl
theorem UP(a:AV) (q:Option Nat):jw b cs (.dat a q)=.dat a q:=rfl
theorem UQ(A:List AV):jw b cs (.rp A)=.rp A:=rfl
theorem UR:jw b cs .undef=.undef:=rfl
theorem US(A o n z:Nat):jw b cs (.vs A o n z)=bif A==b&&decide (n*z<=(cs.drop o).length)then .dat (.sl (cq z n (cs.drop o))) none else .vs A o n z:=rfl
theorem QU:Aw b cs []=[]:=rfl
theorem UT(t:Nat) (v:SV) (r:List (Nat×SV)):Aw b cs ((t,v)::r)=(t,jw b cs v)::Aw b cs r:=rfl
theorem QV:kS n []=[]:=rfl
theorem UU(v:cI) (r:List (Nat×cI)):kS n ((m,v)::r)=bif n==m then kS n r else(m,v)::kS n r:=rfl
theorem QW:gp [] css s=s:=rfl
theorem UW(A:List Nat) (cs:List AV) (css:List (List AV)):gp (b::A) (cs::css) ⟨sl,bx,lv,nx⟩=gp A css ⟨Aw b cs sl,kS b bx,lv,nx⟩:=rfl
theorem Nv:je [] css=[]:=by cases css<;>rfl
theorem Nw:je (some a::as) css=a::je as css:=by cases css<;>rfl
theorem Nx:je (none::as) (cs::css)=.ref cs::je as css:=rfl
theorem UX:iu []=true:=rfl
theorem X6(A:List Nat):iu (b::A)=(decide (4<=b)&&iu A):=rfl
def X7(as:List AV) (s:S) (k:SV->S->Prop) (p:List (Option AV)×List Nat):Prop:=
 (c8 p.2&&iu p.2)=true/\aj (aV s.boxes p.2) λcss=>k (.dat (.fn fn as (je p.1 css)) none) (gp p.2 css s)
theorem UY(as:List AV) (k:SV->S->Prop) (ps:List (Option AV)) (ids:List Nat):X7 fn as ⟨sl,bx,lv,nx⟩ k (ps,ids)=((c8 ids&&iu ids)=true/\aj (aV bx ids) λcss=>k (.dat (.fn fn as (je ps css)) none) (gp ids css ⟨sl,bx,lv,nx⟩)):=rfl
theorem X8(a b:List bn):bB C id (.xN fn a b) K ⟨sl,bx,lv,nx⟩=aj (dQ ⟨sl,bx,lv,nx⟩ a) λas=>aj (dS false ⟨sl,bx,lv,nx⟩ b) (X7 fn as ⟨sl,bx,lv,nx⟩ K):=rfl
def X9(k:AV->Prop):List AV->Prop
 |[]=>False
 |a::r=>aj (r.foldlM (S1 mx) a) k
theorem abc:bB C id (.mm mx args) K ⟨sl,bx,lv,nx⟩=aj (dQ ⟨sl,bx,lv,nx⟩ args) (X9 mx λv=>K (.dat v none) ⟨sl,bx,lv,nx⟩):=by
 show aj _ _=aj _ _
 cases dQ ⟨sl,bx,lv,nx⟩ args with
 |none=>rfl
 |some l=>cases l<;>rfl
theorem Ya(k:AV->Prop) (a b:AV):X9 mx k [a,b]=aj (S1 mx a b) k:=by simp[X9]
theorem Yb(A:IntKind) (x y:Int):S1 true (.int A x) (.int A y)=some (.int A (if y>x then y else x)):=rfl
theorem UZ(A:IntKind) (x y:Int):S1 false (.int A x) (.int A y)=some (.int A (if y<x then y else x)):=rfl
theorem QX(zs:List AV) (parts:List (Nat×Nat×bn)):bB C id (.build zs parts) K ⟨sl,bx,lv,nx⟩=aj (ir ⟨sl,bx,lv,nx⟩ parts) λps=>K (.dat (.agg (m7 zs ps)) none) ⟨sl,bx,lv,nx⟩:=rfl
def t9(A:Nat):Option AV->Option (List (Nat×List AV))->Option (List (Nat×List AV))
 |some a,some ps=>if a.cells.length=A/\iL a none=true then some ((off,a.cells)::ps)else none
 |_,_=>none
theorem Ny(A:Nat) (x:bn) (r:List (Nat×Nat×bn)):ir ⟨sl,bx,lv,nx⟩ ((off,A,x)::r)=t9 off A (aF ⟨sl,bx,lv,nx⟩ x) (ir ⟨sl,bx,lv,nx⟩ r):=rfl
theorem Lu:ir ⟨sl,bx,lv,nx⟩ []=some []:=rfl
theorem Ep(A:Nat) (a:AV) (ps:List (Nat×List AV)) (h:a.cells.length=A) (B:iL a none=true):t9 off A (some a) (some ps)=some ((off,a.cells)::ps):=by simp[t9,h,B]
theorem Yc(e z:Nat) (xs:List bn):bB C id (.PG e z xs) K ⟨sl,bx,lv,nx⟩=aj (lp ⟨sl,bx,lv,nx⟩ z xs) λrows=>K (.dat (.sl rows) (some id)) ⟨sl,bx,(id,e)::lv,nx⟩:=rfl
def U0:Option AV->Option (List (List AV))->Option (List (List AV))
 |some a,some rows=>if a.cells.length=z/\iL a none=true then some (a.cells::rows)else none
 |_,_=>none
theorem QY(x:bn) (r:List bn):lp ⟨sl,bx,lv,nx⟩ z (x::r)=U0 z (aF ⟨sl,bx,lv,nx⟩ x) (lp ⟨sl,bx,lv,nx⟩ z r):=rfl
theorem Nz:lp ⟨sl,bx,lv,nx⟩ z []=some []:=rfl
theorem U1(a:AV) (rows:List (List AV)) (h:a.cells.length=z) (A:iL a none=true):U0 z (some a) (some rows)=some (a.cells::rows):=by simp[U0,h,A]
theorem Yd(e z bytes:Nat) (x y:bn):bB C id (.app e z bytes x y) K ⟨sl,bx,lv,nx⟩=aj (bK ⟨sl,bx,lv,nx⟩ x) fun
   | .dat a q=>aj (rowsOf a) λxs=>aj (aF ⟨sl,bx,lv,nx⟩ y) λb=>aj (rowsOf b) λA=>
     (xs.length+A.length)*bytes<=140737488355328/\(∀r∈xs,r.length=z)/\(∀r∈A,r.length=z)/\
     (match a,q with
      | .bF,_=>if A=[]then K (.dat .bF none) ⟨sl,bx,lv,nx⟩else K (.dat (.sl (xs++A)) (some id)) ⟨sl,bx,(id,e)::lv,nx⟩
      | .sl _,some q=>dY q lv=some e/\K (.dat (.sl (xs++A)) (some id)) ⟨sl,bx,(id,e)::lZ q lv,nx⟩
      |_,_=>False)
   |_=>False:=rfl
theorem Ye(x:bn) (lo A:Option bn):bB C id (.SZ z x lo A) K ⟨sl,bx,lv,nx⟩=aj (aF ⟨sl,bx,lv,nx⟩ x) λa=>aj (rowsOf a) λxs=>aj (Au ⟨sl,bx,lv,nx⟩ lo) λl=>aj (Av ⟨sl,bx,lv,nx⟩ xs A) λh=>(0<=l/\l<=h/\h<=xs.length)/\(∀r∈xs,r.length=z)/\K (.dat (MA a xs l h) none) ⟨sl,bx,lv,nx⟩:=rfl
theorem QZ:Au ⟨sl,bx,lv,nx⟩ none=some 0:=rfl
theorem U2:Au ⟨sl,bx,lv,nx⟩ (some x)=xQ (aF ⟨sl,bx,lv,nx⟩ x):=by cases h:aF ⟨sl,bx,lv,nx⟩ x<;>simp[Au,xQ,h]
theorem Q0:Av ⟨sl,bx,lv,nx⟩ xs none=some (xs.length:Int):=rfl
theorem U3(x:bn):Av ⟨sl,bx,lv,nx⟩ xs (some x)=xQ (aF ⟨sl,bx,lv,nx⟩ x):=by cases h:aF ⟨sl,bx,lv,nx⟩ x<;>simp[Av,xQ,h]
theorem U4(k:IntKind) (i:Int):xQ (some (.int k i))=some i:=rfl
theorem Yf(A:List (List AV)) (l h:Int):MA (.sl A) xs l h=.sl ((xs.take h.toNat).drop l.toNat):=rfl
theorem U5(l h:Int):MA .bF xs l h=.bF:=rfl
def W8:SV->Prop
 | .ptr b o=>k (.ptr b o)
 | .rp cs=>k (.rp cs)
 | .dat (.fn (.func f) as A) q=>k (.dat (.fn (.func f) as A) q)
 | .dat (.ref cs) _=>k (.rp cs)
 |_=>False
theorem abd:bB C id (.nc x) K ⟨sl,bx,lv,nx⟩=aj (bK ⟨sl,bx,lv,nx⟩ x) (W8 λv=>K v ⟨sl,bx,lv,nx⟩):=by
 show aj _ _=aj _ _
 cases bK ⟨sl,bx,lv,nx⟩ x with
 |none=>rfl
 |some v=>cases v with
  |dat a q=>cases a<;>first|rfl|(rename_i f _ _;cases f<;>rfl)
  |_=>rfl
theorem Yg:W8 k (.ptr b o)=k (.ptr b o):=rfl
theorem Yh:W8 k (.dat (.ref cs) q)=k (.rp cs):=rfl
theorem Yi:W8 k (.rp cs)=k (.rp cs):=rfl
theorem U6:aw C .skip Q ⟨sl,bx,lv,nx⟩=Q .normal ⟨sl,bx,lv,nx⟩:=rfl
def Iq(k:S->Prop) (n:Nat):S->Prop:=λs=>k {s with nx:=n}
theorem Yj:aw C (.Jn ops) Q ⟨sl,bx,lv,nx⟩=jb C nx 0 ops (Iq (Q .normal) (nx+ops.length)) ⟨sl,bx,lv,nx⟩:=rfl
def Q1:Prop:=∃ids,(c8 ids&&iu ids)=true/\aj (aV s.boxes ids) λcss=>∃ro,vN (mV ro 0 ops) cJ (gp ids css s).nx (gp ids css s).slots=true/\F (mV ro 0 ops) (gp ids css s)
class KF where
 k:List CO->S->Prop
def dg(ops:List CO) (cJ:List (Nat×Nat)) (s:S) [k:KF]:Prop:=Q1 ops cJ s k.k
theorem abe:Q1 ops cJ s F=@dg ops cJ s ⟨F⟩:=rfl
theorem p9{ops:List CO} {cJ:List (Nat×Nat)} {s:S} {F:List CO->S->Prop} (h:vN ops cJ s.nx s.slots=true) (hk:F ops s):@dg ops cJ s ⟨F⟩:=⟨[],rfl,[],by rw[vM];exact h,by rw[vM];exact hk⟩
theorem iY{ops:List CO} {cJ:List (Nat×Nat)} {s:S} {F:List CO->S->Prop} (h:vN (mV ro 0 ops) cJ s.nx s.slots=true) (hk:F (mV ro 0 ops) s):@dg ops cJ s ⟨F⟩:=⟨[],rfl,ro,h,hk⟩
theorem Ir{ops:List CO} {cJ:List (Nat×Nat)} {s:S} {F:List CO->S->Prop} {css:List (List AV)} (B:(c8 ids&&iu ids)=true) (A:aV s.boxes ids=some css) (h:vN (mV ro 0 ops) cJ (gp ids css s).nx (gp ids css s).slots=true) (hk:F (mV ro 0 ops) (gp ids css s)):@dg ops cJ s ⟨F⟩:=⟨ids,B,by rw[A];exact⟨ro,h,hk⟩⟩
def W9(C:bk) (nx:Nat) (K:S->Prop) (ops:List CO) (s:S):Prop:=jb C nx 0 ops K s
theorem Yk(nx:Nat) (K:S->Prop) (o:CO) (ops:List CO):W9 C nx K (o::ops) ⟨sl,bx,lv,nx⟩=jb C nx 0 (o::ops) K ⟨sl,bx,lv,nx⟩:=rfl
theorem NA:aw C (.Aq ops cJ) Q ⟨sl,bx,lv,nx⟩=Q1 ops cJ ⟨sl,bx,lv,nx⟩ (W9 C nx (Iq (Q .normal) (nx+ops.length))):=by
 show(∃ids,_/\aj _ _)=(∃ids,_/\aj _ _)
 congr 1;funext ids;congr 2;funext css
 show MI _ _ _ _ _=_
 unfold MI W9;simp only[vK];rfl
def pgG(k:Nat) (A:List Nat) (s:S) (F G:List CO->S->Prop):Prop:=Q1 ops cJ s F\/(vN (mW k A 0 ops) cJ s.nx s.slots=true/\G (mW k A 0 ops) s)
class KG where
 k:List CO->S->Prop
 q:List CO->S->Prop
def pg(ops:List CO) (cJ:List (Nat×Nat)) (k:Nat) (A:List Nat) (s:S) [h:KG]:Prop:=pgG ops cJ k A s h.k h.q
theorem abg(k:Nat) (A:List Nat) (s:S) (F G:List CO->S->Prop):pgG ops cJ k A s F G=@pg ops cJ k A s ⟨F,G⟩:=rfl
def NB:Option SV->Option AV
 |some (.dat p none)=>some p
 |_=>none
theorem U7(p:AV):NB (some (.dat p none))=some p:=rfl
def U8:Prop:=aj d λd=>aj (NB (lk d s.slots)) λp=>X p (xS ds s)
theorem U9:U8 d ds X ⟨sl,bx,lv,nx⟩=aj d λd=>aj (NB (lk d sl)) λp=>X p ⟨mX ds sl,bx,lv,nx⟩:=rfl
theorem Va(k:Nat) (B:List Nat):aw C (.HT ops cJ k B) Q ⟨sl,bx,lv,nx⟩=pgG ops cJ k B ⟨sl,bx,lv,nx⟩ (W9 C nx (Iq (Q .normal) (nx+ops.length))) (W9 C nx (U8 (pD k ops) (Qs ops) λp=>Iq (Q (.panic (jd p))) (nx+ops.length))):=by
 show(_\/_)=(_\/_)
 congr 1
 ·exact NA sl bx lv nx ops cJ
 ·unfold TV W9
  congr 1
  rw[Io,Tc]
  congr 1
  funext s
  unfold U8
  apply propext
  constructor
  ·rintro⟨d,p,L,D,M⟩
   rw[L]
   show aj (NB (lk d s.slots)) _
   rw[D];exact M
  ·intro h
   cases hd:pD k ops with
   |none=>rw[hd]at h;exact h.elim
   |some d=>
    rw[hd]at h
    have h:aj (NB (lk d s.slots)) _:=h
    cases A:lk d s.slots with
    |none=>rw[A]at h;exact h.elim
    |some v=>cases v with
     |dat p q=>cases q with
      |none=>rw[A]at h;exact⟨d,p,rfl,A,h⟩
      |some _=>rw[A]at h;exact h.elim
     |_=>rw[A]at h;exact h.elim
theorem Vb(k:S->Prop) (n:Nat):Iq k n ⟨sl,bx,lv,nx⟩=k ⟨sl,bx,lv,n⟩:=rfl
theorem Yl(a b:aZ):aw C (.seq a b) Q ⟨sl,bx,lv,nx⟩=aw C a (jy (aw C b Q) Q) ⟨sl,bx,lv,nx⟩:=rfl
theorem NC(a b:aZ):aw C (.join a b) Q ⟨sl,bx,lv,nx⟩=aw C a (jy (down (aw C b Q)) Q) ⟨sl,bx,lv,nx⟩:=rfl
def uc(a b:Prop):AV->Prop
 | .bool t=>(t=true->a)/\(t=false->b)
 |_=>False
theorem Vc(a b:aZ):aw C (.cond c a b) Q ⟨sl,bx,lv,nx⟩=aj (aF ⟨sl,bx,lv,nx⟩ c) (uc (aw C a Q ⟨sl,bx,lv,nx⟩) (aw C b Q ⟨sl,bx,lv,nx⟩)):=rfl
def Ym(a:Option AV) (k:SV->Prop):SV->Prop
 | .ptr b off=>aj a λa=>aj (idxOf a) λh=>(0<=h/\h<=n)/\k (.vs b off h.toNat z)
 |_=>False
theorem Yn(A:bn):bB C id (.TL x n z A) K ⟨sl,bx,lv,nx⟩=aj (bK ⟨sl,bx,lv,nx⟩ x) (Ym n z (aF ⟨sl,bx,lv,nx⟩ A) λv=>K v ⟨sl,bx,lv,nx⟩):=by
 show aj _ _=aj _ _
 cases bK ⟨sl,bx,lv,nx⟩ x with
 |none=>rfl
 |some v=>cases v<;>rfl
theorem Vd(a:Option AV) (k:SV->Prop) (b off:Nat):Ym n z a k (.ptr b off)=aj a λa=>aj (idxOf a) λh=>(0<=h/\h<=n)/\k (.vs b off h.toNat z):=rfl
theorem Ve:W5 off k (.pt 2 ps)=k (.pt 2 (ps.drop off)):=rfl
theorem ND:Dm true (some (.pt 0 [(b,0)])) (some p)=some (some .hole::p.1,b::p.2):=rfl
def Is:Option Nat->List (Nat×Nat)->Prop
 |none,(b,o)::_=>k (.ptr b o)
 |some n,ps=>n<=ps.length/\k (.pt 0 (ps.take n))
 |_,_=>False
def Q2(k:SV->Prop):SV->Prop
 | .pt 2 ps=>Is k A ps
 |_=>False
theorem Yp:bB C id (.PV x A) K ⟨sl,bx,lv,nx⟩=aj (bK ⟨sl,bx,lv,nx⟩ x) (Q2 A λv=>K v ⟨sl,bx,lv,nx⟩):=by
 show aj _ _=aj _ _
 cases bK ⟨sl,bx,lv,nx⟩ x with
 |none=>rfl
 |some v=>cases v with
  |pt k ps=>match k,A,ps with
   |2,none,(_,_)::_=>rfl
   |2,none,[]=>rfl
   |2,some _,[]=>rfl
   |2,some _,_::_=>rfl
   |0,_,_=>rfl
   |1,_,_=>rfl
   |k+3,_,_=>rfl
  |_=>rfl
theorem Vf(k:SV->Prop) (ps:List (Nat×Nat)):Q2 A k (.pt 2 ps)=Is k A ps:=rfl
theorem Vg:Is k none ((b,o)::ps)=k (.ptr b o):=rfl
theorem Vh:Is k (some 1) ((b,o)::ps)=k (.pt 0 [(b,o)]):=by simp[Is]
@[congr] theorem abh (B:Option Nat) (k:SV->Prop) {v A:SV} (h:v=A):Q2 B k v=Q2 B k A:=by rw[h]
@[congr] theorem abi(B:Option Nat) {v A:List (Nat×Nat)} (h:v=A):Is k B v=Is k B A:=by rw[h]
theorem Vi(k:Nat) (ps:List (Nat×Nat)):jw b cs (.pt k ps)=.pt k ps:=rfl
end
section
variable (id e z l:Nat) (k:S->Prop) (a:Prop) (bytes:Nat) (b:Prop) (c:aZ) (s:S)
def JS:AV->Prop
 | .bool t=>(t=true->a)/\(t=false->b)
 |_=>False
def NF(K:SV->S->Prop) (b off n A:Nat):SV->Prop
 | .ptr B _=>(B=b/\A=z)/\aj (b9 b s.boxes) λy=>(n*z<=(y.cells.drop off).length/\n*bytes<=140737488355328)/\
   JS (K (.dat .bF none) s) (K (.dat (.sl (cq z n (y.cells.drop off))) (some id)) {s with live:=(id,e)::s.live}) (.bool (n==0))
 |_=>False
def Tg(K:SV->S->Prop) (x:Option SV):SV->Prop
 | .vs b off n A=>aj x (NF id e z bytes s K b off n A)
 |_=>False
theorem NG(n:Nat):JS a b (.bool (n==0))=(if n=0 then a else b):=by
 by_cases h:n=0
 ·subst h;simp[JS]
 ·simp[JS,h]
theorem Vj(y x:bn):bB C id (.CJ e z bytes y x) K ⟨sl,bx,lv,nx⟩=aj (bK ⟨sl,bx,lv,nx⟩ y) (Tg id e z bytes ⟨sl,bx,lv,nx⟩ K (bK ⟨sl,bx,lv,nx⟩ x)):=by
 show aj _ _=aj _ _
 cases bK ⟨sl,bx,lv,nx⟩ y with
 |none=>rfl
 |some v=>
  cases v<;>try rfl
  show aj _ _=aj _ _
  cases bK ⟨sl,bx,lv,nx⟩ x with
  |none=>rfl
  |some u=>
   cases u<;>try rfl
   show(_/\aj _ _)=(_/\aj _ _)
   congr 2
   funext y
   rw[NG]
theorem Q3(K:SV->S->Prop) (x:Option SV) (b off n A:Nat):Tg id e z bytes ⟨sl,bx,lv,nx⟩ K x (.vs b off n A)=aj x (NF id e z bytes ⟨sl,bx,lv,nx⟩ K b off n A):=rfl
theorem Q4(K:SV->S->Prop) (b off n A B o:Nat):NF id e z bytes ⟨sl,bx,lv,nx⟩ K b off n A (.ptr B o)=((B=b/\A=z)/\aj (b9 b bx) λy=>(n*z<=(y.cells.drop off).length/\n*bytes<=140737488355328)/\
   uc (K (.dat .bF none) ⟨sl,bx,lv,nx⟩) (K (.dat (.sl (cq z n (y.cells.drop off))) (some id)) ⟨sl,bx,(id,e)::lv,nx⟩) (.bool (n==0))):=rfl
def cd(c:AV) [k:KP]:Prop:=uc k.yes k.no c
theorem Bb(c:AV):uc a b c=@cd c ⟨a,b⟩:=rfl
theorem Q5:@cd (.bool true) ⟨a,b⟩=a:=by simp[cd,uc]
theorem Q6:@cd (.bool false) ⟨a,b⟩=b:=by simp[cd,uc]
theorem Q7:aw C (.block id c) Q ⟨sl,bx,lv,nx⟩=aw C c (iM id Q) ⟨sl,bx,lv,nx⟩:=rfl
theorem Vk:aw C (.exit id) Q ⟨sl,bx,lv,nx⟩=Q (.exit id) ⟨sl,bx,lv,nx⟩:=rfl
theorem Yq:aw C .ret Q ⟨sl,bx,lv,nx⟩=Q .ret ⟨sl,bx,lv,nx⟩:=rfl
theorem Q8(r:aZ):aw C (.scope l c r) Q ⟨sl,bx,lv,nx⟩=aw C c (ru l (aw C r (FA Q)) Q) ⟨sl,bx,lv,nx⟩:=rfl
theorem Q9:aw C (.label l) Q ⟨sl,bx,lv,nx⟩=Q .normal ⟨sl,bx,lv,nx⟩:=rfl
theorem Vl:aw C (.goto l) Q ⟨sl,bx,lv,nx⟩=Q (.goto l) ⟨sl,bx,lv,nx⟩:=rfl
theorem Ra(l:Nat):jy k Q (.goto l) s=Q (.goto l) s:=rfl
theorem Vm(l:Nat):iM id Q (.goto l) s=Q (.goto l) s:=rfl
theorem Yr:ru l k Q .normal s=Q .normal s:=rfl
theorem Ys:ru l k Q .ret s=Q .ret s:=rfl
theorem Yt(id:Nat):ru l k Q (.exit id) s=Q (.exit id) s:=rfl
theorem Yu(A:Nat):ru l k Q (.goto A) s=(A=l/\k s):=rfl
theorem Yv:FA Q .normal s=Q .normal s:=rfl
theorem Yw:FA Q .ret s=Q .ret s:=rfl
theorem Yx(id:Nat):FA Q (.exit id) s=Q (.exit id) s:=rfl
theorem Rb:jy k Q .normal s=k s:=rfl
theorem Rc:jy k Q .ret s=Q .ret s:=rfl
theorem Re(id:Nat):jy k Q (.exit id) s=Q (.exit id) s:=rfl
theorem Vn:iM id Q .normal s=Q .normal s:=rfl
theorem Vo:iM id Q .ret s=Q .ret s:=rfl
theorem Vp:iM id Q (.exit id) s=Q .normal s:=by simp[iM]
theorem Vq(A:Nat) (s:S) (h:(A==id)=false):iM id Q (.exit A) s=Q (.exit A) s:=by
 have:A≠id:=by simpa using h
 simp[iM,this]
end
end
section
variable{C:bk} {Q:Exit->S->Prop} {K:SV->S->Prop} {J:S->Prop}
section
variable (id:Nat) {A v:SV} (e:Exit) (k:SV->Prop)
@[congr] theorem aau {α:Type} {o o':Option α} (k:α->Prop) (h:o=o'):aj o k=aj o' k:=by rw[h]
@[congr] theorem ab3(o:bE) (s:S):bB C id o K s=bB C id o K s:=rfl
@[congr] theorem abj (b i:Nat) (l:List CO) (s:S):jb C b i l J s=jb C b i l J s:=rfl
@[congr] theorem acG (c:aZ) (s:S):aw C c Q s=aw C c Q s:=rfl
@[congr] theorem aav(s:S):jy J Q e s=jy J Q e s:=rfl
@[congr] theorem Yy {J:S->Prop} (l:Nat) (e:Exit) (s:S):ru l J Q e s=ru l J Q e s:=rfl
@[congr] theorem abk(s:S):FA Q e s=FA Q e s:=rfl
@[congr] theorem Yz(s:S):iM id Q e s=iM id Q e s:=rfl
@[congr] theorem abl (n:Nat) (s:S):Iq J n s=Iq J n s:=rfl
@[congr] theorem abm {s A:S} (h:s=A):down J s=down J A:=by rw[h]
@[congr] theorem YA (w:Bool) (yes no:Prop) {g A:Option SV} (h:g=A):nL w yes no g=nL w yes no A:=by rw[h]
@[congr] theorem aaw{a a' b B:Option SV} {c A:AV} (D:a=a') (L:b=B) (M:c=A):Ba a b k c=Ba a' B k A:=by rw[D,L,M]
@[congr] theorem aax (a b:Prop) {c A:AV} (h:c=A):uc a b c=uc a b A:=by rw[h]
@[congr] theorem ab4(B:Option Nat) (bx:List (Nat×cI)) (k:SV->Prop) (h:v=A):W4 B bx k v=W4 B bx k A:=by rw[h]
@[congr] theorem ab5(off:Nat) (k:SV->Prop) (h:v=A):W5 off k v=W5 off k A:=by rw[h]
@[congr] theorem ab6{d B:Nat} (h:v=A) (hd:d=B):XN d k v=XN B k A:=by rw[h,hd]
@[congr] theorem ab7(D:Nat) (bx:List (Nat×cI)) {u B:Option SV} (k:List (Nat×cI)->Prop) (L:u=B) (h:v=A):stP D bx u k v=stP D bx B k A:=by rw[h,L]
@[congr] theorem ab8(B off:Nat) (x:cI) (k:cI->Prop) (h:v=A):XI B off x k v=XI B off x k A:=by rw[h]
@[congr] theorem abn (k:List AV->Prop) {v A:AV} (h:v=A):Ip k v=Ip k A:=by rw[h]
@[congr] theorem ab9 (m:Bool) (k:AV->Prop) {v A:List AV} (h:v=A):X9 m k v=X9 m k A:=by rw[h]
@[congr] theorem acd(h:v=A):W8 k v=W8 k A:=by rw[h]
end
end
section
variable(k:IntKind) (x y:Int)
section
variable (cs:List AV) (c:Prop) (f:FloatKind) (b:Bool) (off n:Nat) (xs:List (List AV)) (A:IntKind) (q:Option Nat) (v:AV)
theorem YB:dO .add (.int k x) (.int k y)=some (.int k (k.wrap (x+y))):=by simp[dO,qN]
theorem YC:dO .sub (.int k x) (.int k y)=some (.int k (k.wrap (x-y))):=by simp[dO,qN]
theorem YD:dO .mul (.int k x) (.int k y)=some (.int k (k.wrap (x*y))):=by simp[dO,qN]
theorem YE:dO .eql (.int k x) (.int k y)=some (.bool (x==y)):=by simp[dO,qN]
theorem YF:dO .neq (.int k x) (.int k y)=some (.bool (x !=y)):=by simp[dO,qN]
theorem YG:dO .lss (.int k x) (.int k y)=some (.bool (decide (x<y))):=by simp[dO,qN]
theorem YH:dO .leq (.int k x) (.int k y)=some (.bool (decide (x<=y))):=by simp[dO,qN]
theorem YI:dO .gtr (.int k x) (.int k y)=some (.bool (decide (y<x))):=by simp[dO,qN]
theorem YJ:dO .geq (.int k x) (.int k y)=some (.bool (decide (y<=x))):=by simp[dO,qN]
def dh(k:IntKind) (x y:Int):Int:=k.wrap (BitVec.ofInt k.bits x&&&BitVec.ofInt k.bits y).toNat
def qV(k:IntKind) (x y:Int):Int:=k.wrap (BitVec.ofInt k.bits x|||BitVec.ofInt k.bits y).toNat
def Lv(k:IntKind) (x y:Int):Int:=k.wrap (BitVec.ofInt k.bits x^^^BitVec.ofInt k.bits y).toNat
def bg(k:IntKind) (x y:Int):Int:=k.wrap (BitVec.ofInt k.bits x&&& ~~~BitVec.ofInt k.bits y).toNat
theorem YK:dO .and (.int k x) (.int k y)=some (.int k (dh k x y)):=by simp[dO,qN,yJ,dh]
theorem abo:dO .or (.int k x) (.int k y)=some (.int k (qV k x y)):=by simp[dO,qN,yJ,qV]
theorem YL:dO .xor (.int k x) (.int k y)=some (.int k (Lv k x y)):=by simp[dO,qN,yJ,Lv]
theorem NH:dO .andNot (.int k x) (.int k y)=some (.int k (bg k x y)):=by simp[dO,qN,yJ,bg]
def qa[Decidable c]:Option AV:=if c then some v else none
theorem Rf[Decidable c] (K:AV->Prop):@wv _ (qa c v) ⟨K⟩=(c/\K v):=by
 rw[<-dI];unfold qa;split<;>simp_all
theorem YM:dO .quo (.int k x) (.int k y)=qa (y≠0) (.int k (k.wrap (x.tdiv y))):=by
 by_cases h:y=0<;>simp[dO,qN,qa,h]
theorem YN:dO .rem (.int k x) (.int k y)=qa (y≠0) (.int k (x.tmod y)):=by
 by_cases h:y=0<;>simp[dO,qN,qa,h]
theorem YO:dO .shl (.int k x) (.int A y)=qa (0<=y) (.int k (k.wrap (x*2^min y.toNat k.bits))):=by
 by_cases h:0<=y
 ·have:¬y<0:=ST
  simp[dO,qZ,qa,h,this]
 ·have:y<0:=ST
  simp[dO,qZ,qa,this]
theorem YP:dO .shr (.int k x) (.int A y)=qa (0<=y) (.int k (x.fdiv (2^min y.toNat k.bits))):=by
 by_cases h:0<=y
 ·have:¬y<0:=ST
  simp[dO,qZ,qa,h,this]
 ·have:y<0:=ST
  simp[dO,qZ,qa,this]
theorem YQ(x y:Bool):WW false (.bool x) (.bool y)=some (.bool (x==y)):=rfl
theorem YR(x y:Bool):WW true (.bool x) (.bool y)=some (.bool (x !=y)):=rfl
theorem YS:TP .not (.bool b)=some (.bool !b):=rfl
theorem YT:TP .neg (.int k x)=some (.int k (k.wrap (0-x))):=rfl
theorem YU:Fv false .bF=some true:=rfl
theorem YV:Fv true .bF=some false:=rfl
theorem YW:Fv false (.sl xs)=some false:=rfl
theorem YX:Fv true (.sl xs)=some true:=rfl
theorem YY:vI .bF=some (.int .i64 0):=rfl
theorem abp:vI (.sl xs)=some (.int .i64 xs.length):=rfl
theorem abq:CZ k (.int A x)=some (.int k (k.wrap x)):=rfl
theorem abr(f:FloatKind):C0 f (.int A x)=some (.float f (f.nearest x)):=rfl
theorem YZ(vs:List AV) (i:Nat):Mz (.cU vs) i=vs[i]?:=rfl
theorem Y0:iL (.agg cs) none=true:=rfl
theorem Y1:iL (.int k x) q=true:=rfl
theorem Y2:iL (.bool b) q=true:=rfl
theorem Y3:iL (.float f n) q=true:=rfl
theorem Y4:iL .bF q=true:=rfl
theorem Y5:iL (.sl xs) q=true:=rfl
theorem Y6(b:ByteArray) (q:Option Nat):iL (.str b) q=true:=rfl
theorem Y7(f:Fn) (as A:List AV) (q:Option Nat):iL (.fn f as A) q=true:=rfl
theorem Vr:iL (.ref cs) q=true:=rfl
theorem Y8:iL .ie q=true:=rfl
theorem Lw:AV.cells (.agg cs)=cs:=rfl
theorem Lx:AV.cells (.int k x)=[.int k x]:=rfl
theorem It:AV.cells (.bool b)=[.bool b]:=rfl
theorem F6:AV.cells (.float f n)=[.float f n]:=rfl
theorem Iu:AV.cells .bF=[.bF]:=rfl
theorem Ly:AV.cells (.ref cs)=[.ref cs]:=rfl
theorem NI(f:Fn) (as A:List AV):AV.cells (.fn f as A)=[.fn f as A]:=rfl
theorem NJ:AV.cells (.sl xs)=[.sl xs]:=rfl
theorem Vs:aH cs off none=cs[off]?:=rfl
theorem uY(h:off+n<=cs.length):aH cs off (some n)=some (.agg ((cs.drop off).take n)):=by simp[aH,h]
end
end
section
variable (wr:List Nat) (F:S->Prop) (Q:Exit->S->Prop) {t:Bool} (s:S)
theorem bf{w:Bool} {yes no:Prop} {q:Option Nat} (A:t=true->@gd w (some (.dat (.bool true) q)) ⟨yes,no⟩) (B:t=false->@gd w (some (.dat (.bool false) q)) ⟨yes,no⟩):@gd w (some (.dat (.bool t) q)) ⟨yes,no⟩:=by
 cases t
 ·exact B rfl
 ·exact A rfl
theorem az{a b:Prop} (A:t=true->a) (B:t=false->b):@cd (.bool t) ⟨a,b⟩:=by
 cases t
 ·simpa[cd,uc]using B rfl
 ·simpa[cd,uc]using A rfl
theorem bz{a b:Option SV} {k:SV->Prop} (A:t=true->@pk a b (.bool true) ⟨k⟩) (B:t=false->@pk a b (.bool false) ⟨k⟩):@pk a b (.bool t) ⟨k⟩:=by
 cases t
 ·exact B rfl
 ·exact A rfl
theorem Rh(p:Nat) (ps:List Nat) (x:AV) (xs:List AV) (s:S):rq (p::ps) (x::xs) s=rq ps xs (s.put (some p) (.dat x none)):=rfl
theorem NK:rq [] [] s=s:=rfl
theorem Vt(sl:List (Nat×SV)) (bx:List (Nat×cI)) (lv:List (Nat×Nat)) (nx:Nat):xS wr ⟨sl,bx,lv,nx⟩=⟨mX wr sl,bx,lv,nx⟩:=rfl
theorem Ri:mX wr []=[]:=rfl
theorem Vu(t:Nat) (v:SV) (r:List (Nat×SV)):mX wr ((t,v)::r)=bif wr.contains t then mX wr r else(t,v)::mX wr r:=rfl
theorem Vv:MH wr F Q .normal s=down F (xS wr s):=rfl
theorem Vw:MH wr F Q .ret s=Q .ret (xS wr s):=rfl
theorem Vx(id:Nat) (s:S):MH wr F Q (.exit id) s=Q (.exit id) (xS wr s):=rfl
theorem Rj(K:S->Prop) (s:S):Fz K .normal s=K s:=rfl
def EV0:=
 cG @Uh (cG @Ui (cG @Uj (cG @XB (cG @aaY (cG @XC (cG @aaZ (cG @Qr (cG @Uk (cG @Ul (cG @Um (cG @Un (cG @XE (cG @F5 (cG @zc (cG @we (cG @rL (cG @Uo (cG @Up (cG @Qt (cG @XF (cG @Ur (cG @Us (cG @Ut (cG @Qu (cG @Uu (cG @Qv (cG @Qw (cG @Qx (@Qy)))))))))))))))))))))))))))))
def EV1:=
 cG @Nb (cG @Qz (cG @Uv (cG @QB (cG @Nc (cG @Nd (cG @Lm (cG @Nf (cG @Lo (cG @aa0 (cG @Uw (cG @QC (cG @QD (cG @QE (cG @XG (cG @aa1 (cG @Ux (cG @Uy (cG @XH (cG @aa2 (cG @XJ (cG @XK (cG @QF (cG @QG (cG @aa3 (cG @XL (cG @XM (cG @XP (cG @XQ (@XR)))))))))))))))))))))))))))))
def EV2:=
 cG @XS (cG @XT (cG @Uz (cG @UA (cG @UB (cG @QH (cG @XU (cG @XV (cG @XW (cG @XX (cG @XY (cG @aa5 (cG @aa6 (cG @UC (cG @UD (cG @UE (cG @UF (cG @JR (cG @QI (cG @aa8 (cG @aa9 (cG @aba (cG @abb (cG @XZ (cG @UH (cG @UI (cG @X1 (cG @UJ (cG @UK (@UM)))))))))))))))))))))))))))))
def EV3:=
 cG @Nh (cG @Ni (cG @Nj (cG @UN (cG @X3 (cG @Nk (cG @QJ (cG @QK (cG @Nl (cG @QL (cG @QM (cG @Lq (cG @Nm (cG @Lr (cG @Nn (cG @No (cG @Nq (cG @QN (cG @QO (cG @QS (cG @Nr (cG @Ns (cG @QT (cG @Nt (cG @Nu (cG @Ls (cG @Lt (cG @X4 (cG @X5 (@UO)))))))))))))))))))))))))))))
def EV4:=
 cG @UP (cG @UQ (cG @UR (cG @US (cG @QU (cG @UT (cG @QV (cG @UU (cG @QW (cG @UW (cG @Nv (cG @Nw (cG @Nx (cG @UX (cG @X6 (cG @UY (cG @X8 (cG @abc (cG @Ya (cG @Yb (cG @UZ (cG @QX (cG @Ny (cG @Lu (cG @Yc (cG @QY (cG @Nz (cG @Yd (cG @Ye (@QZ)))))))))))))))))))))))))))))
def EV5:=
 cG @U2 (cG @Q0 (cG @U3 (cG @U4 (cG @Yf (cG @U5 (cG @abd (cG @Yg (cG @Yh (cG @Yi (cG @U6 (cG @Yj (cG @Yk (cG @NA (cG @U7 (cG @U9 (cG @Va (cG @Vb (cG @Yl (cG @NC (cG @Vc (cG @Yn (cG @Vd (cG @Ve (cG @ND (cG @Yp (cG @Vf (cG @Vg (cG @Vh (@Vi)))))))))))))))))))))))))))))
def EV6:=
 cG @Vj (cG @Q3 (cG @Q4 (cG @Q5 (cG @Q6 (cG @Q7 (cG @Vk (cG @Yq (cG @Q8 (cG @Q9 (cG @Vl (cG @Ra (cG @Vm (cG @Yr (cG @Ys (cG @Yt (cG @Yu (cG @Yv (cG @Yw (cG @Yx (cG @Rb (cG @Rc (cG @Re (cG @Vn (cG @Vo (cG @Vp (cG @YB (cG @YC (cG @YD (@YE)))))))))))))))))))))))))))))
def EV7:=
 cG @YF (cG @YG (cG @YH (cG @YI (cG @YJ (cG @YK (cG @abo (cG @YL (cG @NH (cG @Rf (cG @YM (cG @YN (cG @YO (cG @YP (cG @YQ (cG @YR (cG @YS (cG @YT (cG @YU (cG @YV (cG @YW (cG @YX (cG @YY (cG @abp (cG @abq (cG @abr (cG @YZ (cG @Y0 (cG @Y1 (@Y2)))))))))))))))))))))))))))))
def EV8:=
 cG @Y3 (cG @Y4 (cG @Y5 (cG @Y6 (cG @Y7 (cG @Vr (cG @Y8 (cG @Lw (cG @Lx (cG @It (cG @F6 (cG @Iu (cG @Ly (cG @NI (cG @NJ (cG @Vs (cG @Rh (cG @NK (cG @Vt (cG @Ri (cG @Vu (cG @Vv (cG @Vw (cG @Vx (@Rj))))))))))))))))))))))))
def EV:=
 cG @EV0 (cG @EV1 (cG @EV2 (cG @EV3 (cG @EV4 (cG @EV5 (cG @EV6 (cG @EV7 (@EV8))))))))
end
section
variable{C:bk}
section
variable {F G:S->Prop} {K K':SV->S->Prop} {Q Q':Exit->S->Prop} {e:Exit} {id:Nat} {s:S} {wr:List Nat} {α:Type} (hd:α->S)
theorem wj{o:bE} (hk:∀v A,K v A->K' v A) (h:bB C id o K s):bB C id o K' s:=by
 obtain⟨v,d,hK,_,_,B⟩:=vX h;exact B.2 s .refl K' (hk _ _ hK)
theorem ov{base:Nat}:∀{l:List CO} {i:Nat} {s:S} {K K':S->Prop},(∀s,K s->K' s)->jb C base i l K s->jb C base i l K' s
 |[],i,s,K,K',hk,h=>hk s h
 |o::l,i,s,K,K',hk,h=>by
  rw[oo]at h⊢;obtain⟨v,d,hd,A,_⟩:=eK h;exact hd.2 s .refl _ (ov hk A)
theorem Lz{o:Fu} {X X':AV->S->Prop} (hk:∀v V,K v V->K' v V) (hx:∀p V,X p V->X' p V) (h:ew C id o K X s):ew C id o K' X' s:=by
 cases o with
 |o c=>exact wj hk h
 |call f args=>
  simp only[ew]at h⊢
  rcases h with h|h
  ·exact .inl (wj hk h)
  ·obtain⟨as,has,h⟩:=af h
   rw[has]
   rcases h with⟨cs,B,A⟩|⟨p,B,A⟩|⟨rows,e,z,B,A,h3⟩
   ·exact .inr (.inl ⟨cs,B,hk _ _ A⟩)
   ·exact .inr (.inr (.inl ⟨p,B,hx _ _ A⟩))
   ·exact .inr (.inr (.inr ⟨rows,e,z,B,A,hk _ _ h3⟩))
 |apn e z bytes y=>
  obtain⟨a,M,h⟩:=af h;obtain⟨rows,hr,B,A,h3⟩:=af h;simp only[ew,M,hr,aB];exact⟨B,A,hk _ _ h3⟩
 |dD f args=>
  simp only[ew]at h⊢
  rcases h with h|h
  ·exact .inl (wj hk h)
  ·obtain⟨p,L,hn,h⟩:=af h
   obtain⟨css,O,h⟩:=af h;rw[L];refine .inr ⟨hn,?_⟩;rw[O]
   rcases h with⟨v,D,B,A⟩|⟨tg,r,D,R,B,A⟩
   ·exact .inl ⟨v,D,B,hx _ _ A⟩
   ·obtain⟨qo,Z,A⟩:=af A
    exact .inr ⟨tg,r,D,R,B,by rw[Z];exact hk _ _ A⟩
 |jx b g args=>
  simp only[ew]at h⊢;split at h
  ·obtain⟨p,L,hn,h⟩:=af h
   obtain⟨css,O,h⟩:=af h;rw[L];refine⟨hn,?_⟩;rw[O]
   rcases h with⟨r,fr,D,B,A⟩|⟨v,D,B,A⟩|⟨tg,r,D,R,B,A⟩
   ·exact .inl ⟨r,fr,D,B,hk _ _ A⟩
   ·exact .inr (.inl ⟨v,D,B,hx _ _ A⟩)
   ·obtain⟨qo,Z,A⟩:=af A
    exact .inr (.inr ⟨tg,r,D,R,B,by rw[Z];exact hk _ _ A⟩)
  ·exact wj hk h
 |TM x=>
  obtain⟨p,L,h⟩:=af h;simp only[ew,L,aB]
  cases p<;>first|exact hk _ _ h|exact h.elim
 |TN x=>
  obtain⟨p,L,h⟩:=af h;simp only[ew,L,aB]
  cases p<;>try(exact h.elim)
  rename_i k ps
  cases k<;>first|exact hk _ _ h|exact h.elim
 |stp x v=>
  obtain⟨p,L,h⟩:=af h;simp only[ew,L,aB]
  cases p<;>try(exact h.elim)
  rename_i b o
  cases o<;>try(exact h.elim)
  obtain⟨q,Z,h⟩:=af h;simp only[Z,aB]
  cases q<;>try(exact h.elim)
  rename_i k ps
  cases k<;>try(exact h.elim)
  obtain⟨y,hy,B,A⟩:=af h;simp only[hy,aB];exact⟨B,hk _ _ A⟩
 |TO xs=>obtain⟨p,L,h⟩:=af h;simp only[ew,L];exact hk _ _ h
 |iap x i=>
  obtain⟨p,L,h⟩:=af h;simp only[ew,L,aB]
  cases p<;>try(exact h.elim)
  rename_i k ps
  match k,h with
  |1,h=>
   obtain⟨a,M,h⟩:=af h;obtain⟨j,hj,B,A⟩:=af h;simp only[M,aB,hj];exact⟨B,hk _ _ A⟩
  |0,h=>exact h.elim
  |k+2,h=>exact h.elim
 |lnp x=>
  obtain⟨p,L,h⟩:=af h;simp only[ew,L,aB]
  cases p<;>try(exact h.elim)
  rename_i k ps
  match k,h with
  |1,h=>exact hk _ _ h
  |0,h=>exact h.elim
  |k+2,h=>exact h.elim
 |My g args=>
  obtain⟨av,aa,h⟩:=af h;simp only[ew,aa,aB]
  cases av<;>try(exact h.elim)
  rename_i fn first caps
  cases fn<;>try(exact h.elim)
  cases first<;>try(exact h.elim)
  cases caps<;>try(exact h.elim)
  obtain⟨p,L,hn,h⟩:=af h;obtain⟨css,O,j,o,b,B,A,h3⟩:=af h;simp only[L,aB,O];exact⟨hn,j,o,b,B,A,hk _ _ h3⟩
 |mkc f caps=>obtain⟨p,L,h⟩:=af h;simp only[ew,L];exact hk _ _ h
 |pan x=>obtain⟨a,M,B,A⟩:=af h;simp only[ew,M];exact⟨B,hx _ _ A⟩
 |mkI t x=>obtain⟨a,M,B,A⟩:=af h;simp only[ew,M];exact⟨B,hk _ _ A⟩
 |tas t z x=>
  obtain⟨a,M,h⟩:=af h;obtain⟨v,hv,h⟩:=af h;simp only[ew,M,aB,hv];exact hk _ _ h
 |isI neg x=>
  obtain⟨a,M,h⟩:=af h;obtain⟨v,hv,h⟩:=af h;simp only[ew,M,aB,hv];exact hk _ _ h
 |isP neg x=>
  obtain⟨a,M,h⟩:=af h;obtain⟨v,hv,h⟩:=af h;simp only[ew,M,aB,hv];exact hk _ _ h
 |mks e bytes l c=>
  obtain⟨a,M,h⟩:=af h;obtain⟨l',hl,h⟩:=af h;obtain⟨b,hb,h⟩:=af h;obtain⟨c',hc,B,h⟩:=af h;simp only[ew,M,aB,hl,hb,hc];exact⟨B,hk _ _ h⟩
 |cpy e x y=>
  obtain⟨p,L,h⟩:=af h;simp only[ew,L,aB]
  cases p<;>try(exact h.elim)
  obtain⟨b,hb,h⟩:=af h;obtain⟨ys,hy,B,A,h⟩:=af h;simp only[hb,aB,hy];exact⟨B,A,hk _ _ h⟩
theorem F7{g:Option (Nat×Bool)} {y L n A:Prop} (D:y->L) (B:n->A) (h:fm s g y n):fm s g L A:=by
 unfold fm at h⊢;split at h
 ·exact D h
 ·split at h
  ·exact⟨λe=>D (h.1 e),λe=>B (h.2 e)⟩
  ·exact B h
  ·exact h.elim
theorem uZ{base:Nat}:∀{l:List XO} {i:Nat} {s:S} {K K':S->Prop} {X X':AV->S->Prop},(∀s,K s->K' s)->(∀p B,X p B->X' p B)->ri C base i l K X s->ri C base i l K' X' s
 |[],i,s,K,K',X,X',hk,A,h=>hk s h
 |o::l,i,s,K,K',X,X',hk,A,h=>F7 (Lz (λv B h=>uZ hk A h) A) (uZ hk A) h
theorem lS(h:∀s,F s->G s) (hd:down F s):down G s:=by
 obtain⟨s1,⟨D,hF|⟨ids,A,hF⟩⟩|hF⟩:=hd
 ·exact oZ D (h _ hF)
 ·obtain⟨css,B,hF⟩:=af hF
  exact ME D ⟨ids,A,by rw[B];exact h _ hF⟩
 ·exact⟨s1,.inr (h _ hF)⟩
theorem iN(h:∀s,F s->G s) (B:∀e s,Q e s->Q' e s) (A:jy F Q e s):jy G Q' e s:=by
 cases e<;>first|exact h _ A|exact B _ _ A
theorem F8(D:∀e s,Q e s->Q' e s) (A:iM id Q e s):iM id Q' e s:=by
 cases e with
 |exit i=>
  simp only[iM]at A⊢;split
  ·rename_i B;rw[gc B]at A;exact D _ _ A
  ·rename_i B;rw[fx B]at A;exact D _ _ A
 |_=>exact D _ _ A
theorem pJ{F G:(Exit->S->Prop)->S->Prop} (hF:∀Q Q' s,(∀e s,Q e s->Q' e s)->F Q s->G Q' s) {Q Q':Exit->S->Prop} (A:∀e s,Q e s->Q' e s):∀{n:Nat} {s:S},tf F Q n s->tf G Q' n s
 |0,s,h=>h
 |n+1,s,h=>hF _ _ s (λe s B=>iN (λs hd=>lS (λs h=>pJ hF A h) hd) A B) h
theorem NL(A:∀e s,Q e s->Q' e s) (h:MH wr F Q e s):MH wr F Q' e s:=by
 cases e<;>first|exact h|exact A _ _ h
theorem lN:∀{c:aZ} {Q Q':Exit->S->Prop} {s:S},(∀e s,Q e s->Q' e s)->aw C c Q s->aw C c Q' s:=by
 intro c
 induction c with
 |skip=>intro Q Q' s A h;exact A _ _ h
 |Jn ops=>intro Q Q' s A h;exact ov (λs h=>A _ _ h) h
 |KT ops=>intro Q Q' s A h;exact uZ (λs h=>A _ _ h) (λp s h=>A _ _ h) h
 |Aq ops cJ=>
  intro Q Q' s A h;obtain⟨ids,M,h⟩:=h;obtain⟨css,O,ro,hd,h⟩:=af h
  exact⟨ids,M,by rw[O];exact⟨ro,hd,ov (λs h=>A _ _ h) h⟩⟩
 |HT ops cJ k ad=>
  intro Q Q' s A h
  rcases h with⟨ids,M,h⟩|h
  ·obtain⟨css,O,ro,hd,h⟩:=af h
   exact .inl ⟨ids,M,by rw[O];exact⟨ro,hd,ov (λs h=>A _ _ h) h⟩⟩
  ·exact .inr ⟨h.1,ov (λs ⟨d,p,h1,Z,h3⟩=>⟨d,p,h1,Z,A _ _ h3⟩) h.2⟩
 |seq a b B D=>intro Q Q' s A h;exact B (λe s L=>iN (λs h=>D A h) A L) h
 |join a b B D=>intro Q Q' s A h;exact B (λe s L=>iN (λs h=>lS (λs h=>D A h) h) A L) h
 |cond c a b B D=>
  intro Q Q' s A h;simp only[aw]at h⊢;obtain⟨v,hv,h⟩:=af h;rw[hv]
  cases v<;>try(exact h.elim)
  exact⟨λe=>B A (h.1 e),λe=>D A (h.2 e)⟩
 |block id c ih=>intro Q Q' s A h;exact ih (λe s L=>F8 A L) h
 |loop c ih=>
  intro Q Q' s A h
  exact lS (λs ⟨n,h⟩=>⟨n,pJ (F:=aw C c) (G:=aw C c) (λQ Q' s A h=>ih A h) A h⟩) h
 |exit id=>intro Q Q' s A h;exact A _ _ h
 |ret=>intro Q Q' s A h;exact A _ _ h
 |label l=>intro Q Q' s A h;exact A _ _ h
 |goto l=>intro Q Q' s A h;exact A _ _ h
 |scope l c r aa ab=>
  intro Q Q' s A h
  refine aa (λe s L=>?_) h
  cases e with
  |goto l'=>
   refine⟨L.1,ab (λe s R=>?_) L.2⟩
   cases e<;>first|exact R|exact A _ _ R
  |_=>exact A _ _ L
 |zQ g ps wr as bd B D=>
  intro Q Q' s A h;simp only[aw]at h⊢;obtain⟨gv,ac,xs,h1,Z,F,h3,h4,h5,h6⟩:=af h;rw[ac]
  refine⟨xs,h1,Z,F,h3,h4,λi x V hx hs=>B (λe s L=>?_) (h5 i x V hx hs),λV hs=>A _ _ (h6 V hs)⟩
  cases e<;>first|exact L.elim|exact D (λe s R=>NL A R) L
theorem Rk{g:bn} {ps:List Nat} {as bd:aZ} {R:AV} {xs:List (List AV)} (I:Nat->α->Prop) (hg:aF s g=some R) (Z:C.i R xs) (M:∀x∈xs,x.length=ps.length) {B:α} (D:Le s (hd B)\/s=hd B) (L:I 0 B) (V:∀y,aF (hd y) g=some R) (round:∀i x y,xs[i]? =some x->I i y->aw C as (Fz (aw C bd (MH wr (λA=>∃z,A=hd z/\I (i+1) z) Q))) (rq ps x (hd y))) (fin:∀y,I xs.length y->Q .normal (hd y)):aw C (.zQ g ps wr as bd) Q s:=by
 simp only[aw,hg,aB]
 refine⟨xs,Z,M,λi A=>∃y,A=hd y/\I i y,?_,?_,?_,?_⟩
 ·rcases D with D|D
  ·exact oZ D ⟨B,rfl,L⟩
  ·exact lQ ⟨B,D,L⟩
 ·rintro i A ⟨y,rfl,_⟩;exact V y
 ·rintro i x A hx ⟨y,rfl,O⟩;exact round i x y hx O
 ·rintro A ⟨y,rfl,O⟩;exact fin y O
def flat(keep:List Nat):Nat->aZ->aZ×Nat
 |i,.join a b=>
  let p:=flat keep (i+1) a
  let q:=flat keep p.2 b
  (if keep.contains i then .join p.1 q.1 else .seq p.1 q.1,q.2)
 |i,.seq a b=>
  let p:=flat keep i a
  let q:=flat keep p.2 b
  (.seq p.1 q.1,q.2)
 |i,.cond c a b=>
  let p:=flat keep i a
  let q:=flat keep p.2 b
  (.cond c p.1 q.1,q.2)
 |i,.block id c=>(.block id (flat keep i c).1,(flat keep i c).2)
 |i,.zQ g ps wr as A=>
  let p:=flat keep i as
  let q:=flat keep p.2 A
  (.zQ g ps wr p.1 q.1,q.2)
 |i,.loop c=>(.loop (flat keep i c).1,(flat keep i c).2)
 |i,.scope l c r=>
  let p:=flat keep i c
  let q:=flat keep p.2 r
  (.scope l p.1 q.1,q.2)
 |i,c=>(c,i)
theorem JT{keep:List Nat}:∀{c:aZ} {i:Nat} {Q:Exit->S->Prop} {s:S},aw C (flat keep i c).1 Q s->aw C c Q s:=by
 intro c
 induction c with
 |join a b A B=>
  intro i Q s h;simp only[flat]at h;split at h
  ·exact A (lN (λe s D=>iN (λs h=>lS (λs h=>B h) h) (λ_ _ h=>h) D) h)
  ·exact A (lN (λe s D=>iN (λs h=>lQ (B h)) (λ_ _ h=>h) D) h)
 |seq a b A B=>intro i Q s h;exact A (lN (λe s D=>iN (λs h=>B h) (λ_ _ h=>h) D) h)
 |cond c a b A B=>
  intro i Q s h;simp only[flat,aw]at h⊢;obtain⟨v,hv,h⟩:=af h;rw[hv]
  cases v<;>try(exact h.elim)
  exact⟨λe=>A (h.1 e),λe=>B (h.2 e)⟩
 |block id c L=>intro i Q s h;exact L h
 |scope l c r M O=>
  intro i Q s h
  refine M (lN (λe s D=>?_) h)
  cases e with
  |goto l'=>exact⟨D.1,O D.2⟩
  |_=>exact D
 |zQ g ps wr as bd A B=>
  intro i Q s h;simp only[flat,aw]at h⊢;obtain⟨gv,R,xs,h1,Z,F,h3,h4,h5,h6⟩:=af h;rw[R]
  refine⟨xs,h1,Z,F,h3,h4,λi x V hx hs=>A (lN (λe s D=>?_) (h5 i x V hx hs)),h6⟩
  cases e<;>first|exact D.elim|exact B D
 |loop c L=>
  intro i Q s h
  exact lS (λs ⟨n,h⟩=>⟨n,pJ (F:=aw C (flat keep i c).1) (G:=aw C c) (λQ Q' s hq h=>lN hq (L h)) (λ_ _ h=>h) h⟩) h
 |_=>intro i Q s h;exact h
theorem JU{c:aZ} (μ:α->Nat) (I:α->Prop) (round:∀x,I x->aw C c (jy (down λs=>∃y,s=hd y/\I y/\μ y<μ x) Q) (hd x)) {x:α} (A:I x) (B:Le s (hd x)\/s=hd x):aw C (.loop c) Q s:=by
 have key:∀n x,I x->μ x<n->tf (aw C c) Q n (hd x):=by
  intro n
  induction n with
  |zero=>intro x _ h;omega
  |succ n D=>
   intro x A R;refine lN ?_ (round x A);intro e s L
   refine iN ?_ (λ_ _ h=>h) L
   intro s hd;refine lS ?_ hd
   rintro s ⟨y,rfl,M,O⟩
   exact D y M ST
 rcases B with B|rfl
 ·exact oZ B ⟨μ x+1,key _ x A ST⟩
 ·exact lQ ⟨μ x+1,key _ x A ST⟩
end
end
section
variable (i k:Nat) (cs:List AV) (b:Bool) (xs css:List (List AV)) (r:List (Option AV))
theorem Y9(k:IntKind) (n:Int):iX (.int k n)=.dat (.int k n) none:=rfl
theorem Vy:iX (.bool b)=.dat (.bool b) none:=rfl
theorem Rm(k:FloatKind) (n:Nat):iX (.float k n)=.dat (.float k n) none:=rfl
theorem Za(s:ByteArray):iX (.str s)=.dat (.str s) none:=rfl
theorem Vz:iX .qM=.dat .qM none:=rfl
theorem VA:iX .bF=.dat .bF none:=rfl
theorem abt:iX (.sl xs)=.dat (.sl xs) none:=rfl
theorem abu(f:Fn) (as A:List AV):iX (.fn f as A)=.dat (.fn f as A) none:=rfl
theorem Zb:iX (.agg cs)=.dat (.agg cs) none:=rfl
theorem Zc:iX (.ref cs)=.rp cs:=rfl
theorem Rp(a:AV) (r:List AV):slotsOf i (a::r)=(i,iX a)::slotsOf (i+1) r:=rfl
theorem NM:slotsOf i []=[]:=rfl
theorem VB(as:List AV):JN as=⟨slotsOf 0 as,[],[],4⟩:=rfl
theorem VC(q:IntKind) (n:Int) (r:List (Option AV)):bW i k (some (.int q n)::r)=(i,.dat (.int q n) none)::bW (i+1) k r:=rfl
theorem Rq:bW i k (some (.bool b)::r)=(i,.dat (.bool b) none)::bW (i+1) k r:=rfl
theorem NN(q:FloatKind) (n:Nat) (r:List (Option AV)):bW i k (some (.float q n)::r)=(i,.dat (.float q n) none)::bW (i+1) k r:=rfl
theorem VD(b:ByteArray) (r:List (Option AV)):bW i k (some (.str b)::r)=(i,.dat (.str b) none)::bW (i+1) k r:=rfl
theorem Rr:bW i k (some (.qM)::r)=(i,.dat .qM none)::bW (i+1) k r:=rfl
theorem Rs:bW i k (some (.bF)::r)=(i,.dat .bF none)::bW (i+1) k r:=rfl
theorem Zd:bW i k (some (.sl xs)::r)=(i,.dat (.sl xs) none)::bW (i+1) k r:=rfl
theorem Ze(g:Fn) (as A:List AV) (r:List (Option AV)):bW i k (some (.fn g as A)::r)=(i,.dat (.fn g as A) none)::bW (i+1) k r:=rfl
theorem VE:bW i k (some (.agg cs)::r)=(i,.dat (.agg cs) none)::bW (i+1) k r:=rfl
theorem VF:bW i k (some (.ref cs)::r)=(i,.rp cs)::bW (i+1) k r:=rfl
theorem VG(t:Nat) (a:AV) (r:List (Option AV)):bW i k (some (.iface t a)::r)=(i,.dat (.iface t a) none)::bW (i+1) k r:=rfl
theorem VH:bW i k (some (.m5)::r)=(i,.dat .m5 none)::bW (i+1) k r:=rfl
theorem VI:bW i k (some (.d8)::r)=(i,.dat .d8 none)::bW (i+1) k r:=rfl
theorem Rt:bW i k (some .hole::r)=(i,.pt 0 [(k,0)])::bW (i+1) (k+1) r:=rfl
def LA:=cG @VC (cG @Rq (cG @NN (cG @VD (cG @Rr (cG @Rs (cG @Zd (cG @Ze (cG @VE (cG @VF (cG @VG (cG @VH (cG @VI @Rt))))))))))))
theorem LB:bW i k (none::r)=(i,.ptr k 0)::bW (i+1) (k+1) r:=rfl
theorem LC:bW i k []=[]:=rfl
theorem NO:rK k (cs::css)=(k,⟨cs,[]⟩)::rK (k+1) css:=rfl
theorem LD:rK k []=[]:=rfl
theorem Ru(as:List (Option AV)):F2 css as=⟨bW 0 0 as,rK 0 css,[],4⟩:=rfl
theorem VJ(res:List jf) (r:AV) (s:S):fin res r none .normal s=aj (ef s res) λp=>p.1=r:=by simp[fin,Ik]
end
section
variable (res:List jf) (r a:AV) (css:List (List AV)) (e:Nat) (s:S) (off:Nat) (A:Option Nat) (bx l:List (Nat×cI)) (q:Option Nat) (t:Nat)
theorem VK:fin res r none .ret s=aj (ef s res) λp=>p.1=r:=by simp[fin,Ik]
theorem VL:fin res r (some e) .normal s=aj (ef s res) λp=>p.1=r/\Ik (some e) p.2 s.live:=rfl
theorem VM:fin res r (some e) .ret s=aj (ef s res) λp=>p.1=r/\Ik (some e) p.2 s.live:=rfl
theorem abv(q:Nat) (lv:List (Nat×Nat)):Ik (some e) (some q) lv=(dY q lv=some e):=rfl
theorem Rv:Il res r none css .normal s=aj (ef s res) λp=>p.1=r/\ou s.boxes 0 css:=by simp[Il,Ik]
theorem Rw:Il res r none css .ret s=aj (ef s res) λp=>p.1=r/\ou s.boxes 0 css:=by simp[Il,Ik]
theorem Rx(k:Nat):ou l k []=True:=rfl
theorem VN(k:Nat) (cs:List AV) (css:List (List AV)):ou l k (cs::css)=(aj (b9 k l) (λx=>x.cells=cs)/\ou l (k+1) css):=rfl
def Ry:Option SV->Option (AV×Option Nat)
 |some (.dat a q)=>some (a,q)
 |_=>none
theorem VO:Ry (some (.dat a q))=some (a,q):=rfl
theorem VP:ef s [.tmp t]=Ry (lk t s.slots):=rfl
def NP:Option SV->Option (AV×Option Nat)
 |some (.ptr b off)=>match b9 b bx with
  |some x=>match aH x.cells off A with
   |some a=>some (a,match A with|none=>dY off x.tags|some _=>none)
   |none=>none
  |none=>none
 |_=>none
def Dn:Option cI->Option (AV×Option Nat)
 |some x=>match aH x.cells off A with
  |some a=>some (a,match A with|none=>dY off x.tags|some _=>none)
  |none=>none
 |none=>none
theorem VQ(A:Option Nat):ef s [.cell t A]=NP A s.boxes (lk t s.slots):=rfl
theorem Rz(b off:Nat):NP A bx (some (.ptr b off))=Dn off A (b9 b bx):=by
 simp only[NP,Dn]
theorem RA(n:Nat) (x:cI):Dn off (some n) (some x)=(aH x.cells off (some n)).map λa=>(a,none):=by
 simp only[Dn]<;>cases aH x.cells off (some n)<;>rfl
theorem RB(x:cI):Dn off none (some x)=(x.cells[off]?).map λa=>(a,dY off x.tags):=by
 simp only[Dn,aH]<;>cases x.cells[off]?<;>rfl
theorem VR:ef s []=some (.cU [],none):=rfl
theorem VS(x y:jf) (r:List jf):ef s (x::y::r)=(mj s (x::y::r)).map λas=>(.cU as,none):=rfl
def NQ:Option (AV×Option Nat)->Option (List AV)->Option (List AV)
 |some p,some as=>some (p.1::as)
 |_,_=>none
theorem RC(as:List AV):NQ (some (a,q)) (some as)=some (a::as):=rfl
theorem VT(x:jf) (r:List jf):mj s (x::r)=NQ (ef s [x]) (mj s r):=by
 simp only[mj,NQ,ef]<;>cases Lk s x<;>cases mj s r<;>rfl
end
section
variable {P:Program} {cf:cj} {f:FuncId} {fr:Option Nat} {i off:Nat} {r:AV} {α:Type} {l:List α} {x:α} (n:Int)
theorem RD(s:S):mj s []=some []:=rfl
def EW0:=
 cG @Y9 (cG @Vy (cG @Rm (cG @Za (cG @Vz (cG @VA (cG @abt (cG @abu (cG @Zb (cG @Zc (cG @Rp (cG @NM (cG @VB (cG @LA (cG @LB (cG @LC (cG @NO (cG @LD (cG @Ru (cG @VJ (cG @VK (cG @VL (cG @VM (cG @abv (cG @Rv (cG @Rw (cG @Rx (cG @VN (cG @VO (@VP)))))))))))))))))))))))))))))
def EW1:=
 cG @VQ (cG @Rz (cG @RA (cG @RB (cG @VR (cG @VS (cG @RC (cG @VT (@RD))))))))
def EW:=
 cG @EW0 (@EW1)
theorem aq(hm:P.follows .mixedOrders=true) {B:Bool} (A:HX B P f=some cf) {args:List AV} (keep:List Nat) (D:Nat.ble args.length cf.nt=true) (h:aw (Pure P) (flat keep 0 cf.code).1 (fin cf.res r fr) (JN args)):C4 P f args r fr:=Qq hm A (ia D) (JT (keep:=keep) (i:=0) h)
theorem F9(hm:P.follows .mixedOrders=true) {D:Bool} (B:HX D P f=some cf) {css A:List (List AV)} {args:List (Option AV)} (keep:List Nat) (O:Nat.ble args.length cf.nt=true) (L:A.length=css.length) (M:Nat.ble css.length 4=true) (h:aw (Pure P) (flat keep 0 cf.code).1 (Il cf.res r fr A) (F2 css args)):AA P f css args r fr A:=M9 hm B (ia O) L (ia M) (JT (keep:=keep) (i:=0) h)
abbrev I (n:Int):AV:=.int .i64 n
abbrev B (b:Bool):AV:=.bool b
abbrev D (n:Nat):AV:=.float .f64 n
def bO:Int:=IntKind.i64.wrap n
def aI(f:α->List AV):Option (List α)->AV
 |none=>.bF
 |some l=>.sl (l.map f)
def aE:List AV:=[I n]
structure Ph where
 on:Bool
 min:Int
 LF:Int
 max:Int
 top:Int
 step:Int
 bQ:Int
 red:Int
 walk:Int
 bR:Int
 kU:Int
 lock:Bool
 rest:Bool
 deriving Inhabited,DecidableEq
def Ph.cells(p:Ph):List AV:=[B p.on,I p.min,I p.LF,I p.max,I p.top,I p.step,I p.bQ,I p.red,I p.walk,I p.bR,I p.kU,B p.lock,B p.rest]
structure xP where
 phase:Int
 on:Nat
 off:Nat
 delay:Nat
 extend:Nat
 maxOn:Int
 rM:Int
 deriving Inhabited,DecidableEq
def xP.cells(d:xP):List AV:=[I d.phase,D d.on,D d.off,D d.delay,D d.extend,I d.maxOn,I d.rM]
structure Rl where
 bars:Int
 clear:Int
 gI:Int
 exit:Int
 delay:Int
 green:Int
 dz:Int
 hold:Int
 stay:Int
 most:Int
 limit:Int
 deriving Inhabited,DecidableEq
def Rl.cells(r:Rl):List AV:=[I r.bars,I r.clear,I r.gI,I r.exit,I r.delay,I r.green,I r.dz,I r.hold,I r.stay,I r.most,I r.limit]
structure Bs where
 set:Int
 lock:Int
 deriving Inhabited,DecidableEq
def Bs.cells(b:Bs):List AV:=[I b.set,I b.lock]
structure Gr where
 a:Option (List Int)
 b:Option (List Int)
 deriving Inhabited,DecidableEq
def Gr.cells(g:Gr):List AV:=[aI aE g.a,aI aE g.b]
structure Tb where
 phases:List Ph
 groups:Option (List Gr)
 conflict:List Int
 aQ:Option (List xP)
 bp:Option (List Rl)
 jz:Option (List Bs)
 extend:Int
 gJ:Int
 start:Int
 revert:Int
 least:Int
 dc:List Int
 pK:Int
 share:Int
 deriving Inhabited,DecidableEq
def Tb.cells(t:Tb):List AV:=
 t.phases.flatMap Ph.cells++(aI Gr.cells t.groups::(t.conflict.map I++(aI xP.cells t.aQ::aI Rl.cells t.bp::aI Bs.cells t.jz::
  I t.extend::I t.gJ::I t.start::I t.revert::I t.least::(t.dc.map I++[I t.pK,I t.share]))))
structure Tb.Ok (t:Tb):Prop where
 phases:t.phases.length=8
 conflict:t.conflict.length=8
 dc:t.dc.length=8
 groups:(t.groups.getD []).length<=1048576
 rows:∀g∈t.groups.getD [],(g.a.getD []).length<=1048576/\(g.b.getD []).length<=1048576
 VU:(t.aQ.getD []).length<=1048576
 bp:(t.bp.getD []).length<=1048576
 jz:(t.jz.getD []).length<=1048576
theorem aM{α:Type} {f:α->List AV} {z:Nat} (A:∀x,(f x).length=z):∀{l:List α},(l.flatMap f).length=l.length*z
 |[]=>by simp
 |x::l=>by simp[xo,A,aM A (l:=l),Nat.add_mul];omega
theorem Ph.len(p:Ph):p.cells.length=13:=rfl
theorem Tb.len{t:Tb} (h:t.Ok):t.cells.length=131:=by
 simp[Tb.cells,aM Ph.len,h.phases,h.conflict,h.dc]
theorem Er{α:Type}:∀{l:List α} {i:Nat} {x:α},l[i]? =some x->l=l.take i++x::l.drop (i+1)
 |[],i,x,h=>by simp at h
 |y::l,0,x,h=>by
  simp at h;subst h;simp
 |y::l,i+1,x,h=>by
  have:=Er (l:=l) (i:=i) (x:=x) (by simpa using h)
  simp only[yi,ne,ws]
  exact pb (y:: ·) this
theorem jT{f:α->List AV} (h:l[i]? =some x):l.flatMap f=(l.take i).flatMap f++(f x++(l.drop (i+1)).flatMap f):=by
 conv=>lhs;rw[Er h]
 rw[IR,xo]
theorem kB(h:l[i]? =some x):(l.take i).length=i:=by
 have:=(e9.1 h).1
 simp;omega
theorem gq{pre mid post:List AV} {z:Nat} (B:pre.length=off) (D:mid.length=z):aH (pre++(mid++post)) off (some z)=some (.agg mid):=by
 subst B D
 have A:pre.length+mid.length<=(pre++(mid++post)).length:=TB
 simp only[aH,A,kv,gg,AV.agg.injEq];simp
theorem pL{pre mid post ps:List AV} (A:pre.length=off) (B:mid.length=ps.length):setCells (pre++(mid++post)) off ps=pre++(ps++post):=by
 subst A;simp only[setCells];rw[<-B];simp[PQ]
theorem gB{cs ps:List AV} (h:cs.length=ps.length):setCells cs 0 ps=ps:=by
 simp only[setCells,xa,lr,la,<-h,List.drop_length,ts]
theorem Tb.mq{t:Tb} {p:Ph} (h:t.phases[i]? =some p):aH t.cells (i*13) (some 13)=some (.agg p.cells):=by
 unfold Tb.cells;rw[jT h,List.append_assoc,List.append_assoc]
 exact gq (by rw[aM Ph.len,kB h]) rfl
theorem NR{y:α} (h:l[i]? =some x):l.set i y=l.take i++y::l.drop (i+1):=by
 have A:=(e9.1 h).1
 rw[H0,gc A]
theorem Tb.LG{t:Tb} {p q:Ph} (h:t.phases[i]? =some p):setCells t.cells (i*13) q.cells={t with phases:=t.phases.set i q}.cells:=by
 unfold Tb.cells;simp only;rw[NR h,IR,xo]
 conv=>lhs;rw[jT h]
 rw[List.append_assoc,List.append_assoc,List.append_assoc,List.append_assoc]
 exact pL (by rw[aM Ph.len,kB h]) rfl
end
end Go.Eng
namespace Go.Eng.Z
open Go
section
variable (x y d z:Nat)
def o(d:Nat) (x:bE):CO:=⟨some d,x,none⟩
def p(x:bE) (g:Nat):CO:=⟨some d,x,some (g,true)⟩
def q(x:bE) (g:Nat):CO:=⟨some d,x,some (g,false)⟩
def n(x:bE):CO:=⟨none,x,none⟩
def M(x:Nat):CO:=⟨some d,.mv (.t x),none⟩
def V(v:AV):CO:=⟨some d,.mv (.k v),none⟩
def m(x:Nat):bE:=.mv (.t x)
def v(x:AV):bE:=.mv (.k x)
def l(x:Nat):bE:=.ld (.t x) none
def L:bE:=.ld (.t x) (some z)
def f(x z:Nat):bE:=.fa (.t x) z
def s(x y z:Nat):bE:=.st (.t x) (.t y) z
def ss(y:AV) (z:Nat):bE:=.st (.t x) (.k y) z
def A(a b:Nat):bE:=.Mr (.t x) (.t y) a b
def a:bE:=.PU (.t x) (.t y) z
def P:bE:=.pick (.t x) (.t y) (.k (.bool false))
def Q:bE:=.pick (.t x) (.k (.bool true)) (.t y)
def h:bE:=.HR (.t x)
def w:bE:=.box (.t x)
def b(g:BinOp) (x y:Nat):bE:=.bin g (.t x) (.t y)
def bb(g:BinOp) (x:Nat) (y:AV):bE:=.bin g (.t x) (.k y)
def e(x y:Nat):bE:=.ext (.t x) y
def i(x:Int):AV:=.int .i64 x
def t(x:Nat):bn:=.t x
def k(x:AV):bn:=.k x
def r(x:List CO) (y:aZ):aZ:=.seq (.Jn x) y
def R(x:List CO):aZ:=.Jn x
def j(x y:aZ):aZ:=.join x y
def c(x:Nat) (y z:aZ):aZ:=.cond (.t x) y z
def u(y:aZ):aZ:=.block x y
end
def y:aZ:=.ret
def z:aZ:=.skip
def T:AV:=.bool true
def F:AV:=.bool false
def H:=
 cG @o.eq_1 (cG @p.eq_1 (cG @q.eq_1 (cG @n.eq_1 (cG @M.eq_1 (cG @V.eq_1 (cG @m.eq_1 (cG @v.eq_1 (cG @l.eq_1 (cG @L.eq_1 (cG @f.eq_1 (cG @s.eq_1 (cG @ss.eq_1 (cG @A.eq_1 (cG @a.eq_1 (cG @P.eq_1 (cG @Q.eq_1 (cG @h.eq_1 (cG @w.eq_1 (cG @b.eq_1 (cG @bb.eq_1 (cG @e.eq_1 (cG @i.eq_1 (cG @t.eq_1 (cG @k.eq_1 (cG @r.eq_1 (cG @R.eq_1 (cG @j.eq_1 (cG @c.eq_1 (cG @u.eq_1 (cG @y.eq_1 (cG @z.eq_1 (cG @T.eq_1 @F.eq_1))))))))))))))))))))))))))))))))
end Go.Eng.Z
